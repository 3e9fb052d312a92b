/- Package mac: Of where what it reads may be read; bytes. No condition but sizes. -/
import Derived.Test.YthlipmehnkhijaaDoorMa
import Derived.Test.YthlipmehnkhijaaDoorGv
namespace Go.Proofs.YthlipmehnkhijaaDoor
set_option linter.unusedVariables false
set_option linter.unusedSimpArgs false
open Go.RowKit

theorem bytes8_wf {l : List Int} (h : ∀ i, i < l.length → (Lit.int .u8 (ix l i)).wf = true) : Bytes8 l := by
  intro i
  by_cases hi : i < l.length
  · have := h i hi
    simp [Lit.wf, IntKind.min, IntKind.max, IntKind.signed, IntKind.bits] at this
    omega
  · simp [ix, List.getD_eq_getElem?_getD, List.getElem?_eq_none (Nat.le_of_not_lt hi)]
theorem nums_sOf8 {l : List Int} (h : Bytes8 l) : nums (sOf l) = l := by
  refine nums_sOf l (fun x hx => ?_)
  obtain ⟨i, hi, rfl⟩ := List.getElem_of_mem hx
  have := h i
  rw [ix_eq l i hi] at this
  omega
theorem tag_bytes (key m : List Int) : Bytes8 (tag key m) := digest_bytes _
theorem mac_new (w : World) (K : Option Addr) (key : List Int) (nk ck : Nat) (P : Option Addr) (n c0 : Nat) (ps : List (Option Addr × List Int × Nat)) (hnk : nk = key.length) (hn : n = ps.length) (hK : Rd w K (key.map (.int .u8))) (hP : Rd w P (ps.map pv)) (hp : ∀ p ∈ ps, Rd w p.1 (p.2.1.map (.int .u8))) (hkm : key.length ≤ 800000) (hm : (joined ps).length ≤ 800000) (hc : ps.length ≤ 1000) :
    Calls Tryd.prog 32 #[.slice K nk ck, .slice P n c0] w fun e w' => e = .returned (.agg ((tag key (joined ps)).map (.int .u8)).toArray) ∧ Below w.heap.size w w' := by
  have H := St.ros w ((K, key.map (.int .u8)) :: (P, ps.map pv) :: ps.map fun p => (p.1, p.2.1.map (.int .u8))) (fun x hx => by
    rcases List.mem_cons.1 hx with rfl | hx
    · exact hK
    rcases List.mem_cons.1 hx with rfl | hx
    · exact hP
    · obtain ⟨p, hpm, rfl⟩ := List.mem_map.1 hx
      exact hp p hpm)
  refine (mac_any w w _ K key nk ck P n c0 ps hnk hn (by exact List.mem_map.2 ⟨((K, key.map (Value.int .u8)) : Option Addr × List Value), List.mem_cons_self .., rfl⟩) (by exact List.mem_map.2 ⟨((P, ps.map pv) : Option Addr × List Value), List.mem_cons_of_mem _ (List.mem_cons_self ..), rfl⟩) (fun p hpm => by exact List.mem_map.2 ⟨((p.1, p.2.1.map (Value.int .u8)) : Option Addr × List Value), List.mem_cons_of_mem _ (List.mem_cons_of_mem _ (List.mem_map.2 ⟨p, hpm, rfl⟩)), rfl⟩) hkm hm hc H).mono fun e w' h => ⟨h.1, h.2.below⟩
theorem mac_one (w : World) (K : Option Addr) (key : List Int) (nk ck : Nat) (P : Option Addr) (c0 : Nat) (A : Option Addr) (bs : List Int) (n c : Nat) (hnk : nk = key.length) (hn : n = bs.length) (hK : Rd w K (key.map (.int .u8))) (hP : Rd w P [.slice A n c]) (hA : Rd w A (bs.map (.int .u8))) (hkm : key.length ≤ 800000) (hm : bs.length ≤ 800000) :
    Calls Tryd.prog 32 #[.slice K nk ck, .slice P 1 c0] w fun e w' => e = .returned (.agg ((tag key bs).map (.int .u8)).toArray) ∧ Below w.heap.size w w' := by
  have hj : joined [(A, bs, c)] = bs := by simp [joined]
  have h := mac_new w K key nk ck P 1 c0 [(A, bs, c)] hnk rfl hK (by rw [show [(A, bs, c)].map pv = [Value.slice A n c] by simp [pv, hn]]; exact hP) (fun p hp => by rcases List.mem_singleton.1 hp with rfl; exact hA) hkm (by rw [hj]; exact hm) (by simp)
  rw [hj] at h
  exact h
theorem ofInt8_zero (v : Int) (h0 : 0 ≤ v) (h1 : v ≤ 255) : BitVec.ofInt 8 v = 0#8 ↔ v = 0 := by
  constructor
  · intro h
    have := congrArg BitVec.toNat h
    simp at this
    omega
  · rintro rfl; rfl
theorem ofInt8_inj (a b : Int) (h0 : 0 ≤ a) (h1 : a ≤ 255) (h2 : 0 ≤ b) (h3 : b ≤ 255) : BitVec.ofInt 8 a = BitVec.ofInt 8 b ↔ a = b := by
  constructor
  · intro h
    have := congrArg BitVec.toNat h
    simp at this
    omega
  · rintro rfl; rfl
theorem bits8_range (op : BinOp) (x y : Int) : 0 ≤ bits op .u8 x y ∧ bits op .u8 x y ≤ 255 := by
  unfold bits IntKind.wrap
  simp only []
  constructor <;> (simp [IntKind.max, IntKind.min, IntKind.bits, IntKind.signed]; try omega)
theorem bits8_ofInt (op : BinOp) (x y : Int) : BitVec.ofInt 8 (bits op .u8 x y) = (match op with
    | .and => BitVec.ofInt 8 x &&& BitVec.ofInt 8 y
    | .or => BitVec.ofInt 8 x ||| BitVec.ofInt 8 y
    | .xor => BitVec.ofInt 8 x ^^^ BitVec.ofInt 8 y
    | _ => BitVec.ofInt 8 x &&& ~~~BitVec.ofInt 8 y) := by
  unfold bits
  simp only []
  rw [IntKind.wrap_u8]
  apply BitVec.eq_of_toNat_eq
  rw [BitVec.toNat_ofInt]
  have : ∀ z : BitVec 8, (((z.toNat : Int) % 256) % ((2 ^ 8 : Nat) : Int)).toNat = z.toNat := by
    intro z
    have := z.isLt
    omega
  exact this _
theorem orx_zero (v a b : Int) (h0 : 0 ≤ v) (h1 : v ≤ 255) (a0 : 0 ≤ a) (a1 : a ≤ 255) (b0 : 0 ≤ b) (b1 : b ≤ 255) : bits .or .u8 v (bits .xor .u8 a b) = 0 ↔ v = 0 ∧ a = b := by
  obtain ⟨c0, c1⟩ := bits8_range .or v (bits .xor .u8 a b)
  rw [← ofInt8_zero _ c0 c1, bits8_ofInt]
  simp only [bits8_ofInt]
  rw [BitVec.or_eq_zero_iff, ofInt8_zero v h0 h1]
  rw [show (BitVec.ofInt 8 a ^^^ BitVec.ofInt 8 b = 0#8) ↔ BitVec.ofInt 8 a = BitVec.ofInt 8 b from BitVec.xor_eq_zero_iff, ofInt8_inj a b a0 a1 b0 b1]
end Go.Proofs.YthlipmehnkhijaaDoor
