/- Both sides' seals, openings, checks, all cases laid together. -/
import Derived.Test.YthlipmehnkhijaaDoorVb
import Derived.Test.YthlipmehnkhijaaDoorVe
import Derived.Test.YthlipmehnkhijaaDoorVf
namespace Go.Proofs.YthlipmehnkhijaaDoor
set_option linter.unusedVariables false
set_option linter.unusedSimpArgs false
open Go.RowKit

/-- An error's value by its number. -/
def errV (E : Int → Addr) (c : Int) : Value := if c = 0 then .nilIface else .iface 133 (.pointer (some (E c)))
/-- A sealed frame, or nothing. -/
def sealS (key : List Int) (ten ctr kind : Int) (body : List Int) : List Int := if sealBad ten kind body.length = 0 then sealL key ten ctr kind body else []
theorem seal_fine {ten kind : Int} {n : Nat} (h : sealBad ten kind n = 0) : 0 ≤ ten ∧ ten ≤ 65535 ∧ 0 ≤ kind ∧ kind ≤ 255 ∧ n ≤ 65536 := by
  unfold sealBad at h
  split at h
  · cases h
  · split at h
    · cases h
    · omega
theorem seal_all (E : Int → Addr) (w0 w : World) (L : List Ent) (hE : ErrsAll E w0) (K : Option Addr) (key : List Int) (nk ck : Nat) (ten ctr kind : Int) (B : Option Addr) (body : List Int) (nb cb : Nat) (hnk : nk = key.length) (hnb : nb = body.length) (hK : Ent.ro K (key.map (.int .u8)) ∈ L) (hB : Ent.ro B (body.map (.int .u8)) ∈ L) (hkl : key.length ≤ 100000) (H : St w0 w L) :
    Calls Tryd.prog 11 #[.slice K nk ck, .agg #[.int .i64 ten, .int .u64 ctr, .int .i64 kind, .slice B nb cb]] w fun e w' => ∃ A c, e = .returned (.tuple #[.slice A (sealS key ten ctr kind body).length c, errV E (sealBad ten kind body.length)]) ∧ St w0 w' (.own A ((sealS key ten ctr kind body).map (.int .u8)) c 5 :: L) := by
  by_cases h : sealBad ten kind body.length = 0
  · obtain ⟨t0, t1, k0, k1, hbl⟩ := seal_fine h
    refine (seal_ok w0 w L K key nk ck ten ctr kind B body nb cb hnk hnb hK hB t0 t1 k0 k1 hbl hkl H).mono ?_
    rintro e w' ⟨A, c, rfl, H2⟩
    have e1 : sealS key ten ctr kind body = sealL key ten ctr kind body := if_pos h
    have e2 : 15 + body.length + 32 = (sealS key ten ctr kind body).length := by rw [e1, sealL_len]; omega
    have e3 : errV E (sealBad ten kind body.length) = .nilIface := if_pos h
    rw [e2, e3, e1]
    rw [← e1]
    exact ⟨A, c, rfl, by rw [e1]; exact H2⟩
  · subst hnb
    refine (seal_bad E w0 w L hE K key nk ck ten ctr kind B body.length cb h H).mono ?_
    rintro e w' ⟨rfl, H2⟩
    have e1 : sealS key ten ctr kind body = [] := if_neg h
    have e3 : errV E (sealBad ten kind body.length) = .iface 133 (.pointer (some (E (sealBad ten kind body.length)))) := if_neg h
    rw [e3, e1]
    exact ⟨Option.none, 0, rfl, H2.addNil 5⟩
theorem refSeal_all (w0 w : World) (L : List Ent) (K : Option Addr) (key : List Int) (nk ck : Nat) (ten ctr kind : Int) (B : Option Addr) (body : List Int) (nb cb : Nat) (hnk : nk = key.length) (hnb : nb = body.length) (hK : Ent.ro K (key.map (.int .u8)) ∈ L) (hB : Ent.ro B (body.map (.int .u8)) ∈ L) (hkl : key.length ≤ 100000) (c0 : 0 ≤ ctr) (H : St w0 w L) :
    Calls Tryd.prog 18 #[.slice K nk ck, .agg #[.int .i64 ten, .int .u64 ctr, .int .i64 kind, .slice B nb cb]] w fun e w' => ∃ A c, e = .returned (.tuple #[.slice A (sealS key ten ctr kind body).length c, .int .i64 (sealBad ten kind body.length)]) ∧ St w0 w' (.own A ((sealS key ten ctr kind body).map (.int .u8)) c 5 :: L) := by
  by_cases h : sealBad ten kind body.length = 0
  · obtain ⟨t0, t1, k0, k1, hbl⟩ := seal_fine h
    refine (refSeal_ok w0 w L K key nk ck ten ctr kind B body nb cb hnk hnb hK hB t0 t1 k0 k1 c0 hbl hkl H).mono ?_
    rintro e w' ⟨A, c, rfl, H2⟩
    have e1 : sealS key ten ctr kind body = sealL key ten ctr kind body := if_pos h
    have e2 : 15 + body.length + 32 = (sealS key ten ctr kind body).length := by rw [e1, sealL_len]; omega
    rw [e2, h]
    exact ⟨A, c, rfl, by rw [e1]; exact H2⟩
  · subst hnb
    refine (refSeal_bad w0 w L K nk ck ten ctr kind B body.length cb h H).mono ?_
    rintro e w' ⟨rfl, H2⟩
    have e1 : sealS key ten ctr kind body = [] := if_neg h
    rw [e1]
    exact ⟨Option.none, 0, rfl, H2.addNil 5⟩

/-- A part of a frame, or nothing. -/
def openX (b : List Int) : Int := if openBad b = 0 then hig b 2 else 0
def openY (b : List Int) : Int := if openBad b = 0 then hig (b.drop 2) 8 else 0
def openZ (b : List Int) : Int := if openBad b = 0 then ix b 10 else 0
def openL (b : List Int) : List Int := if openBad b = 0 then (b.drop 15).take (b.length - 47) else []
theorem open_all (E : Int → Addr) (w0 w : World) (L : List Ent) (hE : ErrsAll E w0) (A : Option Addr) (b : List Int) (nb cb : Nat) (hnb : nb = b.length) (hcb : b.length ≤ cb) (hA : Ent.ro A (b.map (.int .u8)) ∈ L) (hb8 : Bytes8 b) (hs : b.length ≤ 1000000) (H : St w0 w L) :
    Calls Tryd.prog 19 #[.slice A nb cb] w fun e w' => ∃ B k, e = .returned (.tuple #[.agg #[.int .i64 (openX b), .int .u64 (openY b), .int .i64 (openZ b), .slice B (openL b).length k], errV E (openBad b)]) ∧ St w0 w' (.own B ((openL b).map (.int .u8)) k 5 :: L) := by
  unfold openX openY openZ openL errV
  by_cases h : openBad b = 0
  · simp only [if_pos h]
    obtain ⟨m, hm, hm2, hl⟩ := open_fine hb8 h
    refine (open_ok w0 w L A b nb cb hnb hcb hA hb8 m hm hm2 hl H).mono ?_
    rintro e w' ⟨B, k, rfl, H2⟩
    have e2 : ((b.drop 15).take (b.length - 47)).length = m := by simp; omega
    rw [e2, show b.length - 47 = m by omega]
    exact ⟨B, k, rfl, H2⟩
  · simp only [if_neg h]
    refine (open_bad E w0 w L hE A b nb cb hnb hcb hA hb8 hs h H).mono ?_
    rintro e w' ⟨rfl, H2⟩
    exact ⟨Option.none, 0, rfl, H2.addNil 5⟩
theorem refOpen_all (w0 w : World) (L : List Ent) (A : Option Addr) (b : List Int) (nb cb : Nat) (hnb : nb = b.length) (hcb : b.length ≤ cb) (hA : Ent.ro A (b.map (.int .u8)) ∈ L) (hb8 : Bytes8 b) (hs : b.length ≤ 1000000) (H : St w0 w L) :
    Calls Tryd.prog 20 #[.slice A nb cb] w fun e w' => ∃ B k, e = .returned (.tuple #[.agg #[.int .i64 (openX b), .int .u64 (openY b), .int .i64 (openZ b), .slice B (openL b).length k], .int .i64 (openBad b)]) ∧ St w0 w' (.own B ((openL b).map (.int .u8)) k 5 :: L) := by
  unfold openX openY openZ openL
  by_cases h : openBad b = 0
  · simp only [if_pos h]
    obtain ⟨m, hm, hm2, hl⟩ := open_fine hb8 h
    refine (refOpen_ok w0 w L A b nb cb hnb hcb hA hb8 m hm hm2 hl H).mono ?_
    rintro e w' ⟨B, k, rfl, H2⟩
    have e2 : ((b.drop 15).take (b.length - 47)).length = m := by simp; omega
    rw [e2, show b.length - 47 = m by omega, h]
    exact ⟨B, k, rfl, H2⟩
  · simp only [if_neg h]
    refine (refOpen_bad w0 w L A b nb cb hnb hcb hA hb8 hs h H).mono ?_
    rintro e w' ⟨rfl, H2⟩
    exact ⟨Option.none, 0, rfl, H2.addNil 5⟩

/-- What a check says. -/
def checkBad (key : List Int) (last : Int) (b : List Int) : Int := if openBad b ≠ 0 then openBad b else if tag key (headOf b) ≠ tailOf b then 117 else if hig (b.drop 2) 8 ≤ last then 118 else 0
def checkX (key : List Int) (last : Int) (b : List Int) : Int := if checkBad key last b = 0 then hig b 2 else 0
def checkY (key : List Int) (last : Int) (b : List Int) : Int := if checkBad key last b = 0 then hig (b.drop 2) 8 else 0
def checkZ (key : List Int) (last : Int) (b : List Int) : Int := if checkBad key last b = 0 then ix b 10 else 0
def checkL (key : List Int) (last : Int) (b : List Int) : List Int := if checkBad key last b = 0 then (b.drop 15).take (b.length - 47) else []
theorem refCheck_all (w0 w : World) (L : List Ent) (K : Option Addr) (key : List Int) (nk ck : Nat) (last : Int) (A : Option Addr) (b : List Int) (nb cb : Nat) (hnk : nk = key.length) (hnb : nb = b.length) (hcb : b.length ≤ cb) (hK : Ent.ro K (key.map (.int .u8)) ∈ L) (hA : Ent.ro A (b.map (.int .u8)) ∈ L) (hb8 : Bytes8 b) (hkl : key.length ≤ 100000) (hs : b.length ≤ 200000) (H : St w0 w L) :
    Calls Tryd.prog 22 #[.slice K nk ck, .int .u64 last, .slice A nb cb] w fun e w' => ∃ B k, e = .returned (.tuple #[.agg #[.int .i64 (checkX key last b), .int .u64 (checkY key last b), .int .i64 (checkZ key last b), .slice B (checkL key last b).length k], .int .i64 (checkBad key last b)]) ∧ St w0 w' (.own B ((checkL key last b).map (.int .u8)) k 5 :: L) := by
  unfold checkX checkY checkZ checkL
  by_cases h : openBad b = 0
  · by_cases hq : tag key (headOf b) = tailOf b
    · by_cases ho : hig (b.drop 2) 8 ≤ last
      · have hc : checkBad key last b = 118 := by unfold checkBad; rw [if_neg (by simpa using h), if_neg (by simpa using hq), if_pos ho]
        simp only [hc, if_neg (show ¬ (118 : Int) = 0 by decide)]
        refine (refCheck_fine w0 w L K key nk ck last A b nb cb hnk hnb hcb hK hA hb8 hkl hs h _ (.inr (.inl ⟨hq, decide_eq_true ho, rfl⟩)) H).mono ?_
        rintro e w' ⟨rfl, H2⟩
        exact ⟨Option.none, 0, rfl, H2.addNil 5⟩
      · have hc : checkBad key last b = 0 := by unfold checkBad; rw [if_neg (by simpa using h), if_neg (by simpa using hq), if_neg ho]
        simp only [hc, if_true]
        refine (refCheck_fine w0 w L K key nk ck last A b nb cb hnk hnb hcb hK hA hb8 hkl hs h _ (.inr (.inr ⟨hq, decide_eq_false ho, rfl⟩)) H).mono ?_
        rintro e w' ⟨m, B, k, hl, rfl, H2⟩
        have e2 : ((b.drop 15).take (b.length - 47)).length = m := by simp; omega
        rw [e2, show b.length - 47 = m by omega]
        exact ⟨B, k, rfl, H2⟩
    · have hc : checkBad key last b = 117 := by unfold checkBad; rw [if_neg (by simpa using h), if_pos hq]
      simp only [hc, if_neg (show ¬ (117 : Int) = 0 by decide)]
      refine (refCheck_fine w0 w L K key nk ck last A b nb cb hnk hnb hcb hK hA hb8 hkl hs h _ (.inl ⟨hq, rfl⟩) H).mono ?_
      rintro e w' ⟨rfl, H2⟩
      exact ⟨Option.none, 0, rfl, H2.addNil 5⟩
  · have hc : checkBad key last b = openBad b := by unfold checkBad; rw [if_pos h]
    simp only [hc, if_neg h]
    refine (refCheck_bad w0 w L K key nk ck last A b nb cb hnk hnb hcb hK hA hb8 hkl hs h H).mono ?_
    rintro e w' ⟨rfl, H2⟩
    exact ⟨Option.none, 0, rfl, H2.addNil 5⟩
theorem check_all (E : Int → Addr) (w0 w : World) (L : List Ent) (K : Option Addr) (key : List Int) (nk ck : Nat) (last : Int) (A : Option Addr) (b : List Int) (nb cb : Nat) (hnk : nk = key.length) (hnb : nb = b.length) (hcb : b.length ≤ cb) (hK : Ent.ro K (key.map (.int .u8)) ∈ L) (hA : Ent.ro A (b.map (.int .u8)) ∈ L) (hb8 : Bytes8 b) (hkl : key.length ≤ 100000) (hs : b.length ≤ 200000) (hE : ErrsAll E w0) (H : St w0 w L) :
    Calls Tryd.prog 21 #[.slice K nk ck, .int .u64 last, .slice A nb cb] w fun e w' => ∃ B k, e = .returned (.tuple #[.agg #[.int .i64 (checkX key last b), .int .u64 (checkY key last b), .int .i64 (checkZ key last b), .slice B (checkL key last b).length k], errV E (checkBad key last b)]) ∧ St w0 w' (.own B ((checkL key last b).map (.int .u8)) k 5 :: L) := by
  unfold checkX checkY checkZ checkL errV
  by_cases h : openBad b = 0
  · by_cases hq : tag key (headOf b) = tailOf b
    · by_cases ho : hig (b.drop 2) 8 ≤ last
      · have hc : checkBad key last b = 118 := by unfold checkBad; rw [if_neg (by simpa using h), if_neg (by simpa using hq), if_pos ho]
        simp only [hc, if_neg (show ¬ (118 : Int) = 0 by decide)]
        refine (check_fine E w0 w L K key nk ck last A b nb cb hnk hnb hcb hK hA hb8 hkl hs hE h _ (.inr (.inl ⟨hq, decide_eq_true ho, rfl⟩)) H).mono ?_
        rintro e w' ⟨rfl, H2⟩
        exact ⟨Option.none, 0, rfl, H2.addNil 5⟩
      · have hc : checkBad key last b = 0 := by unfold checkBad; rw [if_neg (by simpa using h), if_neg (by simpa using hq), if_neg ho]
        simp only [hc, if_true]
        refine (check_fine E w0 w L K key nk ck last A b nb cb hnk hnb hcb hK hA hb8 hkl hs hE h _ (.inr (.inr ⟨hq, decide_eq_false ho, rfl⟩)) H).mono ?_
        rintro e w' ⟨m, B, k, hl, rfl, H2⟩
        have e2 : ((b.drop 15).take (b.length - 47)).length = m := by simp; omega
        rw [e2, show b.length - 47 = m by omega]
        exact ⟨B, k, rfl, H2⟩
    · have hc : checkBad key last b = 117 := by unfold checkBad; rw [if_neg (by simpa using h), if_pos hq]
      simp only [hc, if_neg (show ¬ (117 : Int) = 0 by decide)]
      refine (check_fine E w0 w L K key nk ck last A b nb cb hnk hnb hcb hK hA hb8 hkl hs hE h _ (.inl ⟨hq, rfl⟩) H).mono ?_
      rintro e w' ⟨rfl, H2⟩
      exact ⟨Option.none, 0, rfl, H2.addNil 5⟩
  · have hc : checkBad key last b = openBad b := by unfold checkBad; rw [if_pos h]
    simp only [hc, if_neg h]
    refine (check_bad0 E w0 w L K key nk ck last A b nb cb hnk hnb hcb hK hA hb8 hkl hs hE h H).mono ?_
    rintro e w' ⟨rfl, H2⟩
    exact ⟨Option.none, 0, rfl, H2.addNil 5⟩
end Go.Proofs.YthlipmehnkhijaaDoor
