/- Package tens: Valid, walked. No condition but sizes that any memory has. -/
import Derived.Test.YtgifehmpgcenjaaDoorTc
namespace Go.Proofs.YtgifehmpgcenjaaDoor
set_option linter.unusedVariables false
set_option linter.unusedSimpArgs false
open Go.RowKit

/-- the errors that are read here -/
structure Errs3 (E : Int → Addr) (w : World) : Prop where
  e : Errs E w
  shape : w.cell? ⟨2, 0, none⟩ = some (.iface 168 (.pointer (some (E 101))))
theorem Errs3.mono {E : Int → Addr} {w w' : World} (h : Errs3 E w) (hb : Below w.heap.size w w') : Errs3 E w' := ⟨h.e.mono hb, cell_mono h.shape hb⟩

/-- where a number is that does not fit -/
def badAt (d : List Int) (wide : Bool) : Nat := d.findIdx fun n => !fitsL n wide
def tvalid (s d : List Int) (wide : Bool) : Er := if validL s ≠ 0 then .s (validL s) else if (d.length : Int) ≠ elemsL s then .s 101 else if badAt d wide < d.length then .at_ 102 (badAt d wide) else .none
theorem badAt_eq {d : List Int} {wide : Bool} {k : Nat} (hk : k < d.length) (h : ∀ j, j < k → fitsL (ix d j) wide = true) (hb : fitsL (ix d k) wide = false) : badAt d wide = k := by
  unfold badAt
  rw [List.findIdx_eq hk]
  rw [ix_eq d k hk] at hb
  refine ⟨by simp [hb], fun j hj => ?_⟩
  have := h j hj
  rw [ix_eq d j (by omega)] at this
  simp [this]
theorem badAt_all {d : List Int} {wide : Bool} (h : ∀ j, j < d.length → fitsL (ix d j) wide = true) : badAt d wide = d.length := by
  unfold badAt
  rw [List.findIdx_eq_length]
  intro x hx
  obtain ⟨i, hi, rfl⟩ := List.getElem_of_mem hx
  have := h i hi
  rw [ix_eq d i hi] at this
  simp [this]
theorem validL_cases (l : List Int) : validL l = 0 ∨ validL l = 102 ∨ validL l = 104 := by
  unfold validL
  split
  · exact .inr (.inr rfl)
  · split
    · exact .inr (.inl rfl)
    · split
      · exact .inr (.inr rfl)
      · exact .inl rfl

set_option maxHeartbeats 1600000 in
theorem tvalid_any (E : Int → Addr) (w : World) (A A' : Option Addr) (s d : List Int) (c c' : Nat) (wide : Bool) (h1 : IL .i64 w A s) (h2 : IL .i64 w A' d) (hm : s.length ≤ maxLen) (hm' : d.length ≤ maxLen) (hE : Errs3 E w) :
    Calls Tryd.prog 55 #[.agg #[.slice A s.length c, .bool wide, .slice A' d.length c']] w fun e w' => ∃ v, e = .returned v ∧ EV E w' (tvalid s d wide) v ∧ Below w.heap.size w w' := by
  have HB := Below.refl w.heap.size w
  have n1 := iface_nil_neq
  have n2 := nil_nil_neq
  unfold maxLen at hm'
  by_cases hv : validL s = 0
  · have ht := Aside.mk (show tvalid s d wide = if (d.length : Int) ≠ elemsL s then .s 101 else if badAt d wide < d.length then .at_ 102 (badAt d wide) else .none by simp [tvalid, hv])
    have hr : errV E (validL s) = .nilIface := by rw [hv]; rfl
    have hr := Lib.hid hr
    clear hv
    
    go_enter Tryd.func55, Tryd.ntmps55
    go_wp2_with (first | ((with_reducible refine dst_gate (N := 1) rfl ?_); (refine box_ev 1 rfl ?hg #[.slice A s.length c, .bool wide, .slice A' d.length c'] 49 ?hr ?_); (case hg => first | rfl | (go_simp; done)); (case hr => (first | (go_simp; done) | (go_simp; rfl))); intro gK wK K hgK hb; have HB := below_step HB hb; replace h1 := h1.mono hb; replace h2 := h2.mono hb; replace hE := hE.mono hb; have k0 := K.cell 0 _ rfl; have k1 := K.cell 1 _ rfl) | ((with_reducible refine callee_gate (f := 20) (N := 8) rfl rfl ?_); refine call_ev 8 rfl rfl ?hg Tryd.func20 (by kernel_rfl) rfl #[.agg #[.slice A s.length c, .bool wide]] ?hargs (valid_any E _ A s c wide h1 hm hE.e) ?_; (case hg => first | rfl | (go_simp; done)); (case hargs => first | rfl | (simp; done) | (simp [Act.put, Act.eval]; done) | (go_simp; done)); rintro e_ w_ ⟨rfl, hb⟩; have HB := below_step HB hb; replace h1 := h1.mono hb; replace h2 := h2.mono hb; replace hE := hE.mono hb; refine ⟨_, rfl, ?_⟩; rw [hr.out]; replace K := K.mono hb))
    have K' := K.mono (Below.refl _ _).drew
    have h1' := h1.mono (Below.refl _ _).drew
    have h2' := h2.mono (Below.refl _ _).drew
    have hE' := hE.mono (Below.refl _ _).drew
    have q0 := K'.cell 0 _ rfl
    have q1 := K'.cell 1 _ rfl
    have q2 := K'.cell 2 _ rfl
    by_cases hl : (d.length : Int) = elemsL s
    · have z1 : ((d.length : Int) != elemsL s) = false := by simpa using hl
      have hl := Lib.hid hl
      go_region_with (first | (go_at_call 21; refine (elems_any E _ A s c h1' hm hE'.e).mono ?_; rintro e_ w2 ⟨rfl, hb2⟩; have K2 := K'.mono hb2; have f0 := K2.cell 0 _ rfl; have f1 := K2.cell 1 _ rfl; have f2 := K2.cell 2 _ rfl; have h2'' := h2'.mono hb2; have hE'' := hE'.mono hb2))
      all_goals
        replace HB := below_step HB.drew hb2
        clear h1 h1' h2' hE' K' q0 q1 q2 hE K h2
        have e0 := hE''.e.range
        have e1 := hE''.shape
        go_wp2
        go_loop [24, 4, 5] (fun i _ _ => ∃ k : Nat, k ≤ d.length ∧ i = .int .i64 k ∧ Aside (∀ j, j < k → fitsL (ix d j) wide = true)) (fun i _ _ => d.length - (intOf i).toNat)
        case atStart => exact ⟨0, Nat.zero_le _, rfl, ⟨fun j hj => absurd hj (by omega)⟩⟩
        case round =>
          obtain ⟨k, hk, rfl, hin⟩ := hrel
          by_cases hk : k < d.length
          · obtain ⟨b, o, rfl, hc⟩ := h2'' (by omega)
            have hck := hc k hk
            have hc := Aside.mk hc
            have z2 : decide ((k : Int) < (d.length : Int)) = true := decide_eq_true (by omega)
            have b1 : (k : Int) < (d.length : Int) := by omega
            by_cases hf : fitsL (ix d k) wide = true
            · have hff := Lib.hid hf
              go_wp2_with ((with_reducible refine callee_gate (f := 96) (N := 33) rfl rfl ?_); refine call_ev 33 rfl rfl ?hg Tryd.func96 (by kernel_rfl) rfl #[.int .i64 (ix d k), .bool wide] ?hargs (fits_any _ (ix d k) wide) ?_; (case hg => first | rfl | (go_simp; done)); (case hargs => first | rfl | (simp; done) | (simp [Act.put, Act.eval]; done) | (go_simp; done)); rintro e_ w_ ⟨rfl, rfl⟩; refine ⟨_, rfl, ?_⟩; rw [hf])
              go_round
              case rel => exact ⟨k + 1, by omega, by go_num, ⟨fun j hj => by
                by_cases e : j = k
                · subst e; exact hff.out
                · exact hin.out j (by omega)⟩⟩
              case measure => simp [intOf]; omega
            · have hf : fitsL (ix d k) wide = false := by simpa using hf
              have hk2 := badAt_eq hk hin.out hf
              have hres : tvalid s d wide = .at_ 102 k := by rw [ht.out, if_neg (by simpa using hl.out), hk2, if_pos hk]
              have hres := Aside.mk hres
              clear hk2
              
              go_wp2_with (first | ((with_reducible refine callee_gate (f := 96) (N := 33) rfl rfl ?_); refine call_ev 33 rfl rfl ?hg Tryd.func96 (by kernel_rfl) rfl #[.int .i64 (ix d k), .bool wide] ?hargs (fits_any _ (ix d k) wide) ?_; (case hg => first | rfl | (go_simp; done)); (case hargs => first | rfl | (simp; done) | (simp [Act.put, Act.eval]; done) | (go_simp; done)); rintro e_ w_ ⟨rfl, rfl⟩; refine ⟨_, rfl, ?_⟩; rw [hf]) | ((with_reducible refine dst_gate (N := 38) rfl ?_); (refine box_ev 38 rfl ?hg #[.int .i64 k, .iface 168 (.pointer (some (E 102)))] 118 ?hr ?_); (case hg => first | rfl | (go_simp; done)); (case hr => (first | (go_simp; done) | (go_simp; rfl))); intro gP wP P hgP hb; have HB := below_step HB hb))
              go_ret
              exact ⟨_, rfl, by first | exact ⟨by simp [codes], gP, rfl, P.cell 0 _ rfl, P.cell 1 _ rfl⟩ | (rw [hres.out]; exact ⟨by simp [codes], gP, rfl, P.cell 0 _ rfl, P.cell 1 _ rfl⟩), HB⟩
          · obtain rfl : k = d.length := by omega
            have hk2 := badAt_all hin.out
            have hres : tvalid s d wide = .none := by rw [ht.out, if_neg (by simpa using hl.out), hk2, if_neg (by omega)]
            have hres := Aside.mk hres
            clear hk2
            go_wp2
            go_ret
            exact ⟨_, rfl, by first | exact rfl | (rw [hres.out]; exact rfl), HB⟩
    · have z1 : ((d.length : Int) != elemsL s) = true := by simpa using hl
      have hres : tvalid s d wide = .s 101 := by rw [ht.out, if_pos hl]
      have hres := Aside.mk hres
      clear hl
      go_region_with (first | (go_at_call 21; refine (elems_any E _ A s c h1' hm hE'.e).mono ?_; rintro e_ w2 ⟨rfl, hb2⟩; have K2 := K'.mono hb2; have f0 := K2.cell 0 _ rfl; have f1 := K2.cell 1 _ rfl; have f2 := K2.cell 2 _ rfl; have hE'' := hE'.mono hb2; have e1 := hE''.shape))
      all_goals
        replace HB := below_step HB.drew hb2
        go_wp2
        go_ret
        exact ⟨_, rfl, by first | exact ⟨by simp [codes], rfl⟩ | (rw [hres.out]; exact ⟨by simp [codes], rfl⟩), HB⟩
  · have hr := errV_ne E hv
    have ht : tvalid s d wide = .s (validL s) := by simp [tvalid, hv]
    have hr := Lib.hid hr
    
    go_enter Tryd.func55, Tryd.ntmps55
    go_wp2_with (first | ((with_reducible refine dst_gate (N := 1) rfl ?_); (refine box_ev 1 rfl ?hg #[.slice A s.length c, .bool wide, .slice A' d.length c'] 49 ?hr ?_); (case hg => first | rfl | (go_simp; done)); (case hr => (first | (go_simp; done) | (go_simp; rfl))); intro gK wK K hgK hb; have HB := below_step HB hb; have k0 := K.cell 0 _ rfl; have k1 := K.cell 1 _ rfl; have h1 := h1.mono HB; have hE := hE.mono HB) | ((with_reducible refine callee_gate (f := 20) (N := 8) rfl rfl ?_); refine call_ev 8 rfl rfl ?hg Tryd.func20 (by kernel_rfl) rfl #[.agg #[.slice A s.length c, .bool wide]] ?hargs (valid_any E _ A s c wide h1 hm hE.e) ?_; (case hg => first | rfl | (go_simp; done)); (case hargs => first | rfl | (simp; done) | (simp [Act.put, Act.eval]; done) | (go_simp; done)); rintro e_ w_ ⟨rfl, hb⟩; have HB := below_step HB hb; refine ⟨_, rfl, ?_⟩; rw [hr.out]))
    go_ret
    exact ⟨_, rfl, by rw [ht]; exact ⟨by rcases validL_cases s with h | h | h <;> simp_all [codes], rfl⟩, HB⟩
end Go.Proofs.YtgifehmpgcenjaaDoor
