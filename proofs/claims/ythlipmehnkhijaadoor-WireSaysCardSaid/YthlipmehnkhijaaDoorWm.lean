/- Check of any bytes; frames that are the same. No condition but sizes. -/
import Derived.Test.YthlipmehnkhijaaDoorWh
import Derived.Test.YthlipmehnkhijaaDoorMd
namespace Go.Proofs.YthlipmehnkhijaaDoor
set_option linter.unusedVariables false
set_option linter.unusedSimpArgs false
open Go.RowKit

theorem openBad_code {b : List Int} (h : openBad b ≠ 0) : openBad b ∈ codes := by
  unfold openBad at *
  split
  · simp [codes]
  split
  · simp [codes]
  split
  · simp [codes]
  split
  · simp [codes]
  · simp_all
/-- A check that is refused, whatever the reason. -/
theorem check_no (E : Int → Addr) (w : World) (hE : ErrsAll E w) (K : Option Addr) (key : List Int) (nk ck : Nat) (last : Int) (A : Option Addr) (b : List Int) (nb cb : Nat) (hnk : nk = key.length) (hnb : nb = b.length) (hcb : b.length ≤ cb) (hK : Rd w K (key.map (.int .u8))) (hA : Rd w A (b.map (.int .u8))) (hb8 : Bytes8 b) (hkl : key.length ≤ 100000) (hs : b.length ≤ 200000) (h : tag key (headOf b) ≠ tailOf b ∨ openBad b ≠ 0) :
    Calls Tryd.prog 21 #[.slice K nk ck, .int .u64 last, .slice A nb cb] w fun e w' => ∃ c, c ∈ codes ∧ e = .returned (.tuple #[.agg #[.int .i64 0, .int .u64 0, .int .i64 0, .slice none 0 0], .iface 133 (.pointer (some (E c)))]) ∧ Below w.heap.size w w' := by
  by_cases h0 : openBad b = 0
  · have hq : tag key (headOf b) ≠ tailOf b := by
      rcases h with h | h
      · exact h
      · exact absurd h0 h
    exact (check_tag_new E w hE K key nk ck last A b nb cb hnk hnb hcb hK hA hb8 hkl hs h0 hq).mono fun e w' h => ⟨117, by simp [codes], h.1, h.2⟩
  · exact (check_bad_new E w hE K key nk ck last A b nb cb hnk hnb hcb hK hA hb8 hkl hs h0).mono fun e w' h => ⟨openBad b, openBad_code h0, h.1, h.2⟩
/-- A check, whatever comes of it. -/
theorem check_some (E : Int → Addr) (w : World) (hE : ErrsAll E w) (K : Option Addr) (key : List Int) (nk ck : Nat) (last : Int) (A : Option Addr) (b : List Int) (nb cb : Nat) (hnk : nk = key.length) (hnb : nb = b.length) (hcb : b.length ≤ cb) (hK : Rd w K (key.map (.int .u8))) (hA : Rd w A (b.map (.int .u8))) (hb8 : Bytes8 b) (hkl : key.length ≤ 100000) (hs : b.length ≤ 200000) :
    Calls Tryd.prog 21 #[.slice K nk ck, .int .u64 last, .slice A nb cb] w fun e w' => ∃ (x y z : Int) (B : Option Addr) (m k : Nat) (er : Value), e = .returned (.tuple #[.agg #[.int .i64 x, .int .u64 y, .int .i64 z, .slice B m k], er]) ∧ Below w.heap.size w w' := by
  by_cases h0 : openBad b = 0
  · by_cases hq : tag key (headOf b) = tailOf b
    · by_cases ho : hig (b.drop 2) 8 ≤ last
      · exact (check_old_new E w hE K key nk ck last A b nb cb hnk hnb hcb hK hA hb8 hkl hs h0 hq ho).mono fun e w' h => ⟨_, _, _, _, _, _, _, h.1, h.2⟩
      · exact (check_ok_new E w hE K key nk ck last A b nb cb hnk hnb hcb hK hA hb8 hkl hs h0 hq (by omega)).mono fun e w' h => by
          obtain ⟨m, B, k, _, h2, h3⟩ := h
          exact ⟨_, _, _, _, _, _, _, h2, h3.below⟩
    · exact (check_tag_new E w hE K key nk ck last A b nb cb hnk hnb hcb hK hA hb8 hkl hs h0 hq).mono fun e w' h => ⟨_, _, _, _, _, _, _, h.1, h.2⟩
  · exact (check_bad_new E w hE K key nk ck last A b nb cb hnk hnb hcb hK hA hb8 hkl hs h0).mono fun e w' h => ⟨_, _, _, _, _, _, _, h.1, h.2⟩
set_option maxRecDepth 100000 in
set_option maxHeartbeats 1000000 in
theorem sameFrame_new (w : World) (ten ctr kind : Int) (A B : Option Addr) (body : List Int) (na ca nb cb : Nat) (hna : na = body.length) (hnb : nb = body.length) (hA : Rd w A (body.map (.int .u8))) (hB : Rd w B (body.map (.int .u8))) (hbl : body.length ≤ 100000) :
    Calls Tryd.prog 24 #[.agg #[.int .i64 ten, .int .u64 ctr, .int .i64 kind, .slice A na ca], .agg #[.int .i64 ten, .int .u64 ctr, .int .i64 kind, .slice B nb cb]] w fun e w' => e = .returned (.bool true) ∧ Below w.heap.size w w' := by
  subst hna; subst hnb
  have H := St.ro2 hA hB
  go_enter Tryd.func24, Tryd.ntmps24
  go_wp2_with (first | (go_at_call 23; refine (sameBytes_any _ _ _ A B body body _ _ ca cb rfl rfl (by omega) (by repeat (first | exact mh_ | assumption | apply mt_)) (by repeat (first | exact mh_ | assumption | apply mt_)) H).mono ?_; rintro e_ w_ ⟨rfl, HN⟩; clear H; have H := HN; clear HN; rw [decide_eq_true (rfl : body = body)]) | ((with_reducible refine wpGate ?_); first | (refine sLoad ?_ ?_ ?Zo ?_ ?Zd ?Zg ?Zs ?_ ?Zx ?_ ?Zv ?_; (case Zo => rfl); (case Zd => rfl); (case Zs => exact Tsc.out); (case Zg => (first | rfl | (go_simp; done) | fail)); (case Zx => rfl); (case Zv => (first | (refine H.cellBlk (cs := ?_) (t := ?_) ?Zm1 ?Zv1; (case Zm1 => (repeat (first | exact mh_ | assumption | apply mt_))); (case Zv1 => (first | rfl | (refine map_ix _ _ _ ?_; first | (with_reducible assumption) | omega | (simp; omega)) | (refine map_ix_app _ _ _ _ ?_; first | (with_reducible assumption) | omega | (simp; omega)) | assumption | (simp; done)))) | (refine (H.rdOwn (xs := ?_) (c := ?_) (e := ?_) ?Zm1).get ?Zv1; (case Zm1 => (repeat (first | exact mh_ | assumption | apply mt_))); (case Zv1 => (first | rfl | (refine map_ix _ _ _ ?_; first | (with_reducible assumption) | omega | (simp; omega)) | (refine map_ix_app _ _ _ _ ?_; first | (with_reducible assumption) | omega | (simp; omega)) | assumption | (simp; done)))) | (refine (H.rdRo (xs := ?_) ?Zm1).get ?Zv1; (case Zm1 => (repeat (first | exact mh_ | assumption | apply mt_))); (case Zv1 => (first | rfl | (refine map_ix _ _ _ ?_; first | (with_reducible assumption) | omega | (simp; omega)) | (refine map_ix_app _ _ _ _ ?_; first | (with_reducible assumption) | omega | (simp; omega)) | assumption | (simp; done)))) | (refine H.cellOld ?Zm1; (case Zm1 => assumption)) | fail)); try simp only [q_1, q_2, q_3, q_4]) | (refine sBox H ?_ ?_ ?Zo ?_ ?Zd ?Zg ?_ ?Zx ?_; (case Zo => rfl); (case Zd => rfl); (case Zg => (first | rfl | (go_simp; done) | fail)); (case Zx => (first | (go_simp; done) | (go_simp; rfl) | rfl)); intro g_ w_ HN; clear H; have H := HN; clear HN; try simp only [q_1, q_2, q_3, q_4])))
  (go_ret; exact ⟨by simp, H.below⟩)
theorem St.addPartC {w0 w : World} {L : List Ent} (H : St w0 w L) {A : Option Addr} {xs : List Value} (hm : Ent.ro A xs ∈ L) (c l n : Nat) (hc : xs.length ≤ c) (hn : l + n ≤ xs.length) : St w0 w (.ro (subC A c l) ((xs.drop l).take n) :: L) := by
  by_cases h0 : (xs.drop l).take n = []
  · rw [h0]
    exact H.addRo (fun hp => absurd hp (by simp)) (fun k hk => by simp [Ent.rd] at hk)
  · have hcl : c ≠ l := by
      intro e
      apply h0
      apply List.eq_nil_of_length_eq_zero
      simp; omega
    have hx0 : 0 < xs.length := by
      rcases Nat.eq_zero_or_pos xs.length with h | h
      · exact absurd (by simp [List.length_eq_zero_iff.1 h]) h0
      · exact h
    obtain ⟨b, q, e1, _⟩ := H.rdRo hm hx0
    subst e1
    have := H.addPart hm l n
    unfold subC
    rw [if_neg hcl]
    simpa [Go.Proofs.YthlipmehnkhijaaDoor.sub, add_ea] using this
theorem cut_bad (key : List Int) (ten ctr kind : Int) (body : List Int) (j : Nat) (hj : j < 47 + body.length) (hbl : body.length ≤ 65536) : openBad ((sealL key ten ctr kind body).take j) ≠ 0 := by
  have hl := sealL_len key ten ctr kind body
  have hlj : ((sealL key ten ctr kind body).take j).length = j := by rw [List.length_take]; omega
  unfold openBad
  rw [hlj]
  by_cases h : j < 15
  · rw [if_pos h]; decide
  · have hn : hig (((sealL key ten ctr kind body).take j).drop 11) 4 = (body.length : Int) := by
      rw [← seal_num key ten ctr kind body hbl]
      refine hig_congr 4 (fun i hi => ?_)
      rw [ix_drop, ix_drop, ix_take _ _ _ (by omega)]
    rw [hn, if_neg h, if_neg (by omega), if_pos (by omega)]; decide
theorem refMac_new (w : World) (K : Option Addr) (key : List Int) (nk ck : Nat) (B : Option Addr) (bs : List Int) (nb cb : Nat) (hnk : nk = key.length) (hnb : nb = bs.length) (hK : Rd w K (key.map (.int .u8))) (hB : Rd w B (bs.map (.int .u8))) (hkm : key.length ≤ 800000) (hm : bs.length ≤ 800000) :
    Calls Tryd.prog 25 #[.slice K nk ck, .slice B nb cb] w fun e w' => e = .returned (.agg ((tag key bs).map (.int .u8)).toArray) ∧ Below w.heap.size w w' :=
  (refMac_any w w _ K key nk ck B bs nb cb hnk hnb (List.Mem.head _) (List.Mem.tail _ (List.Mem.head _)) hkm hm (St.ro2 hK hB)).mono fun e w' h => ⟨h.1, h.2.below⟩
theorem ix_set (l : List Int) (j : Nat) (v : Int) (k : Nat) (hj : j < l.length) : ix (l.set j v) k = if k = j then v else ix l k := by
  unfold ix
  rw [List.getD_eq_getElem?_getD, List.getD_eq_getElem?_getD, List.getElem?_set]
  by_cases e : k = j
  · subst e; simp [hj]
  · rw [if_neg (fun h => e h.symm), if_neg e]
theorem bytes8_set {l : List Int} (h : Bytes8 l) {j : Nat} {v : Int} (h0 : 0 ≤ v) (h1 : v ≤ 255) : Bytes8 (l.set j v) := by
  intro i
  by_cases hj : j < l.length
  · rw [ix_set l j v i hj]
    split
    · exact ⟨h0, h1⟩
    · exact h i
  · rw [List.set_eq_of_length_le (by omega)]; exact h i
end Go.Proofs.YthlipmehnkhijaaDoor
