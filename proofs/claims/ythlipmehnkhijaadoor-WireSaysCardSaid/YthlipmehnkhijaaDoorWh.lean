/- Check of what was sealed. No condition but sizes that any memory has. -/
import Derived.Test.YthlipmehnkhijaaDoorWf
import Derived.Test.YthlipmehnkhijaaDoorWg
import Derived.Test.YthlipmehnkhijaaDoorWp
namespace Go.Proofs.YthlipmehnkhijaaDoor
set_option linter.unusedVariables false
set_option linter.unusedSimpArgs false
open Go.RowKit

theorem check_old_new (E : Int → Addr) (w : World) (hE : ErrsAll E w) (K : Option Addr) (key : List Int) (nk ck : Nat) (last : Int) (A : Option Addr) (b : List Int) (nb cb : Nat) (hnk : nk = key.length) (hnb : nb = b.length) (hcb : b.length ≤ cb) (hK : Rd w K (key.map (.int .u8))) (hA : Rd w A (b.map (.int .u8))) (hb8 : Bytes8 b) (hkl : key.length ≤ 100000) (hs : b.length ≤ 200000) (h0 : openBad b = 0) (hq : tag key (headOf b) = tailOf b) (ho : hig (b.drop 2) 8 ≤ last) :
    Calls Tryd.prog 21 #[.slice K nk ck, .int .u64 last, .slice A nb cb] w fun e w' => e = .returned (.tuple #[.agg #[.int .i64 0, .int .u64 0, .int .i64 0, .slice none 0 0], .iface 133 (.pointer (some (E 118)))]) ∧ Below w.heap.size w w' :=
  (check_old E w w _ K key nk ck last A b nb cb hnk hnb hcb (List.Mem.head _) (List.Mem.tail _ (List.Mem.head _)) hb8 hkl hs hE h0 hq ho (St.ro2 hK hA)).mono fun e w' h => ⟨h.1, h.2.below⟩
theorem check_tag_new (E : Int → Addr) (w : World) (hE : ErrsAll E w) (K : Option Addr) (key : List Int) (nk ck : Nat) (last : Int) (A : Option Addr) (b : List Int) (nb cb : Nat) (hnk : nk = key.length) (hnb : nb = b.length) (hcb : b.length ≤ cb) (hK : Rd w K (key.map (.int .u8))) (hA : Rd w A (b.map (.int .u8))) (hb8 : Bytes8 b) (hkl : key.length ≤ 100000) (hs : b.length ≤ 200000) (h0 : openBad b = 0) (hq : tag key (headOf b) ≠ tailOf b) :
    Calls Tryd.prog 21 #[.slice K nk ck, .int .u64 last, .slice A nb cb] w fun e w' => e = .returned (.tuple #[.agg #[.int .i64 0, .int .u64 0, .int .i64 0, .slice none 0 0], .iface 133 (.pointer (some (E 117)))]) ∧ Below w.heap.size w w' :=
  (check_tag E w w _ K key nk ck last A b nb cb hnk hnb hcb (List.Mem.head _) (List.Mem.tail _ (List.Mem.head _)) hb8 hkl hs hE h0 hq (St.ro2 hK hA)).mono fun e w' h => ⟨h.1, h.2.below⟩
theorem check_bad_new (E : Int → Addr) (w : World) (hE : ErrsAll E w) (K : Option Addr) (key : List Int) (nk ck : Nat) (last : Int) (A : Option Addr) (b : List Int) (nb cb : Nat) (hnk : nk = key.length) (hnb : nb = b.length) (hcb : b.length ≤ cb) (hK : Rd w K (key.map (.int .u8))) (hA : Rd w A (b.map (.int .u8))) (hb8 : Bytes8 b) (hkl : key.length ≤ 100000) (hs : b.length ≤ 200000) (h0 : openBad b ≠ 0) :
    Calls Tryd.prog 21 #[.slice K nk ck, .int .u64 last, .slice A nb cb] w fun e w' => e = .returned (.tuple #[.agg #[.int .i64 0, .int .u64 0, .int .i64 0, .slice none 0 0], .iface 133 (.pointer (some (E (openBad b))))]) ∧ Below w.heap.size w w' :=
  (check_bad0 E w w _ K key nk ck last A b nb cb hnk hnb hcb (List.Mem.head _) (List.Mem.tail _ (List.Mem.head _)) hb8 hkl hs hE h0 (St.ro2 hK hA)).mono fun e w' h => ⟨h.1, h.2.below⟩
theorem check_ok_new (E : Int → Addr) (w : World) (hE : ErrsAll E w) (K : Option Addr) (key : List Int) (nk ck : Nat) (last : Int) (A : Option Addr) (b : List Int) (nb cb : Nat) (hnk : nk = key.length) (hnb : nb = b.length) (hcb : b.length ≤ cb) (hK : Rd w K (key.map (.int .u8))) (hA : Rd w A (b.map (.int .u8))) (hb8 : Bytes8 b) (hkl : key.length ≤ 100000) (hs : b.length ≤ 200000) (h0 : openBad b = 0) (hq : tag key (headOf b) = tailOf b) (ho : last < hig (b.drop 2) 8) :
    Calls Tryd.prog 21 #[.slice K nk ck, .int .u64 last, .slice A nb cb] w fun e w' => ∃ (m : Nat) (B : Option Addr) (k : Nat), b.length = 47 + m ∧ e = .returned (.tuple #[.agg #[.int .i64 (hig b 2), .int .u64 (hig (b.drop 2) 8), .int .i64 (ix b 10), .slice B m k], .nilIface]) ∧ St w w' [.own B (((b.drop 15).take m).map (.int .u8)) k 5] :=
  (check_ok E w w _ K key nk ck last A b nb cb hnk hnb hcb (List.Mem.head _) (List.Mem.tail _ (List.Mem.head _)) hb8 hkl hs hE h0 hq ho (St.ro2 hK hA)).mono fun e w' h => by
    obtain ⟨m, B, k, h1, h2, h3⟩ := h
    exact ⟨m, B, k, h1, h2, h3.sub ((List.nil_sublist _).cons_cons _)⟩
theorem seal_tag (key : List Int) (ten ctr kind : Int) (body : List Int) : tag key (headOf (sealL key ten ctr kind body)) = tailOf (sealL key ten ctr kind body) := by
  rw [headOf_seal, tailOf_seal]
theorem check_seal_old (E : Int → Addr) (w : World) (hE : ErrsAll E w) (K : Option Addr) (key : List Int) (nk ck : Nat) (last : Int) (A : Option Addr) (ten ctr kind : Int) (body : List Int) (nb cb : Nat) (hnk : nk = key.length) (hnb : nb = 15 + body.length + 32) (hcb : 15 + body.length + 32 ≤ cb) (hK : Rd w K (key.map (.int .u8))) (hA : Rd w A ((sealL key ten ctr kind body).map (.int .u8))) (t0 : 0 ≤ ten) (t1 : ten ≤ 65535) (c0 : 0 ≤ ctr) (c1 : ctr < 18446744073709551616) (k0 : 0 ≤ kind) (k1 : kind ≤ 255) (hb8 : Bytes8 body) (hbl : body.length ≤ 65536) (hkl : key.length ≤ 100000) (ho : ctr ≤ last) :
    Calls Tryd.prog 21 #[.slice K nk ck, .int .u64 last, .slice A nb cb] w fun e w' => e = .returned (.tuple #[.agg #[.int .i64 0, .int .u64 0, .int .i64 0, .slice none 0 0], .iface 133 (.pointer (some (E 118)))]) ∧ Below w.heap.size w w' :=
  check_old_new E w hE K key nk ck last A _ nb cb hnk (by rw [sealL_len]; omega) (by rw [sealL_len]; omega) hK hA (bytes8_seal key ten ctr kind body k0 k1 hb8) hkl (by rw [sealL_len]; omega) (seal_open key ten ctr kind body hbl) (seal_tag key ten ctr kind body) (by rw [seal_ctr key ten ctr kind body c0 c1]; exact ho)
theorem check_seal_ok (E : Int → Addr) (w : World) (hE : ErrsAll E w) (K : Option Addr) (key : List Int) (nk ck : Nat) (last : Int) (A : Option Addr) (ten ctr kind : Int) (body : List Int) (nb cb : Nat) (hnk : nk = key.length) (hnb : nb = 15 + body.length + 32) (hcb : 15 + body.length + 32 ≤ cb) (hK : Rd w K (key.map (.int .u8))) (hA : Rd w A ((sealL key ten ctr kind body).map (.int .u8))) (t0 : 0 ≤ ten) (t1 : ten ≤ 65535) (c0 : 0 ≤ ctr) (c1 : ctr < 18446744073709551616) (k0 : 0 ≤ kind) (k1 : kind ≤ 255) (hb8 : Bytes8 body) (hbl : body.length ≤ 65536) (hkl : key.length ≤ 100000) (ho : last < ctr) :
    Calls Tryd.prog 21 #[.slice K nk ck, .int .u64 last, .slice A nb cb] w fun e w' => ∃ (B : Option Addr) (k : Nat), e = .returned (.tuple #[.agg #[.int .i64 ten, .int .u64 ctr, .int .i64 kind, .slice B body.length k], .nilIface]) ∧ St w w' [.own B (body.map (.int .u8)) k 5] :=
  (check_ok_new E w hE K key nk ck last A _ nb cb hnk (by rw [sealL_len]; omega) (by rw [sealL_len]; omega) hK hA (bytes8_seal key ten ctr kind body k0 k1 hb8) hkl (by rw [sealL_len]; omega) (seal_open key ten ctr kind body hbl) (seal_tag key ten ctr kind body) (by rw [seal_ctr key ten ctr kind body c0 c1]; exact ho)).mono fun e w' h => by
    obtain ⟨m, B, k, h1, h2, h3⟩ := h
    rw [sealL_len] at h1
    obtain rfl : m = body.length := by omega
    rw [seal_ten key ten ctr kind body t0 t1, seal_ctr key ten ctr kind body c0 c1, seal_kind] at h2
    rw [seal_body] at h3
    exact ⟨B, k, h2, h3⟩
end Go.Proofs.YthlipmehnkhijaaDoor
