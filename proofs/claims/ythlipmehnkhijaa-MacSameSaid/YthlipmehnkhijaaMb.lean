/- Package mac: Of where what it reads may be read; Sub, Same, Differ; the chapter's example. No condition but sizes. -/
import Derived.Test.YthlipmehnkhijaaMa
import Derived.Test.YthlipmehnkhijaaHr
import Derived.Test.YthlipmehnkhijaaGv
import Derived.Test.YthlipmehnkhijaaHx
namespace Go.Proofs.Ythlipmehnkhijaa
set_option linter.unusedVariables false
set_option linter.unusedSimpArgs false
open Go.RowKit

theorem bytes8_wf {l : List Int} (h : ∀ i, i < l.length → (Lit.int .u8 (ix l i)).wf = true) : Bytes8 l := by
  intro i
  by_cases hi : i < l.length
  · have := h i hi
    simp [Lit.wf, IntKind.min, IntKind.max, IntKind.signed, IntKind.bits] at this
    omega
  · simp [ix, List.getD_eq_getElem?_getD, List.getElem?_eq_none (Nat.le_of_not_lt hi)]
theorem nums_sOf8 {l : List Int} (h : Bytes8 l) : nums (sOf l) = l := by
  refine nums_sOf l (fun x hx => ?_)
  obtain ⟨i, hi, rfl⟩ := List.getElem_of_mem hx
  have := h i
  rw [ix_eq l i hi] at this
  omega
theorem tag_bytes (key m : List Int) : Bytes8 (tag key m) := digest_bytes _
theorem mac_new (w : World) (K : Option Addr) (key : List Int) (nk ck : Nat) (P : Option Addr) (n c0 : Nat) (ps : List (Option Addr × List Int × Nat)) (hnk : nk = key.length) (hn : n = ps.length) (hK : Rd w K (key.map (.int .u8))) (hP : Rd w P (ps.map pv)) (hp : ∀ p ∈ ps, Rd w p.1 (p.2.1.map (.int .u8))) (hkm : key.length ≤ 800000) (hm : (joined ps).length ≤ 800000) (hc : ps.length ≤ 1000) :
    Calls Try.prog 30 #[.slice K nk ck, .slice P n c0] w fun e w' => e = .returned (.agg ((tag key (joined ps)).map (.int .u8)).toArray) ∧ Below w.heap.size w w' := by
  have H := St.ros w ((K, key.map (.int .u8)) :: (P, ps.map pv) :: ps.map fun p => (p.1, p.2.1.map (.int .u8))) (fun x hx => by
    rcases List.mem_cons.1 hx with rfl | hx
    · exact hK
    rcases List.mem_cons.1 hx with rfl | hx
    · exact hP
    · obtain ⟨p, hpm, rfl⟩ := List.mem_map.1 hx
      exact hp p hpm)
  refine (mac_any w w _ K key nk ck P n c0 ps hnk hn (by exact List.mem_map.2 ⟨((K, key.map (Value.int .u8)) : Option Addr × List Value), List.mem_cons_self .., rfl⟩) (by exact List.mem_map.2 ⟨((P, ps.map pv) : Option Addr × List Value), List.mem_cons_of_mem _ (List.mem_cons_self ..), rfl⟩) (fun p hpm => by exact List.mem_map.2 ⟨((p.1, p.2.1.map (Value.int .u8)) : Option Addr × List Value), List.mem_cons_of_mem _ (List.mem_cons_of_mem _ (List.mem_map.2 ⟨p, hpm, rfl⟩)), rfl⟩) hkm hm hc H).mono fun e w' h => ⟨h.1, h.2.below⟩
theorem mac_one (w : World) (K : Option Addr) (key : List Int) (nk ck : Nat) (P : Option Addr) (c0 : Nat) (A : Option Addr) (bs : List Int) (n c : Nat) (hnk : nk = key.length) (hn : n = bs.length) (hK : Rd w K (key.map (.int .u8))) (hP : Rd w P [.slice A n c]) (hA : Rd w A (bs.map (.int .u8))) (hkm : key.length ≤ 800000) (hm : bs.length ≤ 800000) :
    Calls Try.prog 30 #[.slice K nk ck, .slice P 1 c0] w fun e w' => e = .returned (.agg ((tag key bs).map (.int .u8)).toArray) ∧ Below w.heap.size w w' := by
  have hj : joined [(A, bs, c)] = bs := by simp [joined]
  have h := mac_new w K key nk ck P 1 c0 [(A, bs, c)] hnk rfl hK (by rw [show [(A, bs, c)].map pv = [Value.slice A n c] by simp [pv, hn]]; exact hP) (fun p hp => by rcases List.mem_singleton.1 hp with rfl; exact hA) hkm (by rw [hj]; exact hm) (by simp)
  rw [hj] at h
  exact h
theorem tag_nil_hex : hexL (outs (absorb KS HS (padded (xk 92 (List.replicate 64 0) ++ outs (absorb KS HS (padded (xk 54 (List.replicate 64 0) ++ [])) ((padded (xk 54 (List.replicate 64 0) ++ [])).length / 64)) 32)) ((padded (xk 92 (List.replicate 64 0) ++ outs (absorb KS HS (padded (xk 54 (List.replicate 64 0) ++ [])) ((padded (xk 54 (List.replicate 64 0) ++ [])).length / 64)) 32)).length / 64)) 32) = [98, 54, 49, 51, 54, 55, 57, 97, 48, 56, 49, 52, 100, 57, 101, 99, 55, 55, 50, 102, 57, 53, 100, 55, 55, 56, 99, 51, 53, 102, 99, 53, 102, 102, 49, 54, 57, 55, 99, 52, 57, 51, 55, 49, 53, 54, 53, 51, 99, 54, 99, 55, 49, 50, 49, 52, 52, 50, 57, 50, 99, 53, 97, 100] := by decide +kernel
theorem tag_nil : sOf (hexL (tag [] [])) = ⟨#[98, 54, 49, 51, 54, 55, 57, 97, 48, 56, 49, 52, 100, 57, 101, 99, 55, 55, 50, 102, 57, 53, 100, 55, 55, 56, 99, 51, 53, 102, 99, 53, 102, 102, 49, 54, 57, 55, 99, 52, 57, 51, 55, 49, 53, 54, 53, 51, 99, 54, 99, 55, 49, 50, 49, 52, 52, 50, 57, 50, 99, 53, 97, 100]⟩ := by
  have hb : kbase [] = [] := by unfold kbase; rw [if_neg (by decide)]
  have hk : kpad [] = List.replicate 64 0 := by unfold kpad; rw [hb]; rfl
  have e : tag [] [] = digest (xk 92 (List.replicate 64 0) ++ digest (xk 54 (List.replicate 64 0) ++ [])) := by unfold tag; rw [hk]
  rw [e, digest_padded, digest_padded, tag_nil_hex]
  apply ByteArray.ext
  decide +kernel
set_option maxRecDepth 100000 in
theorem first2_any (w : World) : Calls Try.prog 29 #[] w fun e w' => e = .returned (.bool true) ∧ St w w' [] := by
  have H := St.start w
  have hl := tag_len [] []
  have hd := tag_bytes [] []
  have hn := Aside.mk tag_nil
  go_enter Try.func29, Try.ntmps29
  go_wp2_with (first | (go_at_call 30; refine (mac_new _ none [] 0 0 none 0 0 [] rfl rfl (Rd.none _ _) (Rd.none _ _) (fun p hp => by cases hp) (by decide) (by decide) (by decide)).mono ?_; rintro e_ w_ ⟨rfl, hb_⟩; have HN := H.app hb_; clear hb_; clear H; have H := HN; clear HN; rw [show joined [] = [] from rfl]) | (go_at_call 28; refine (hex_any _ _ _ (tag [] []) hl hd H).mono ?_; rintro e_ w_ ⟨rfl, HN⟩; clear H; have H := HN; clear HN; rw [hn.out]) | ((with_reducible refine wpGate ?_); first | (refine sLoadAgg H ?_ ?_ ?zho ?_ ?zhd ?zhg ?zh1 ?zh2 ?_ ?zhn ?_ ?_ ?zhx ?_ ?_ ?zhm ?zhle ?_ ?zhvs ?_; (case zho => rfl); (case zhd => rfl); (case zh1 => kernel_rfl); (case zh2 => kernel_rfl); (case zhn => exact Tsz.out); (case zhg => (first | rfl | (go_simp; done) | fail)); (case zhx => rfl); (case zhm => (repeat (first | exact List.Mem.head _ | assumption | apply List.Mem.tail))); (case zhle => (first | (with_reducible assumption) | omega | (simp; omega) | (simp; done) | fail)); (case zhvs => (first | (with_reducible refine setWhole _ _ ?_; first | (simp; omega) | (simp; done) | fail) | (with_reducible refine setRange_map _ _ _ _ ?_; first | (with_reducible assumption) | omega) | (with_reducible refine setRange_app _ _ _ _ _ ?_; first | (with_reducible assumption) | omega) | (with_reducible refine take_map_app _ _ _ _ ?_; with_reducible assumption) | (with_reducible refine take_map_w _ _ _ ?_; with_reducible assumption) | (simp only [List.take_zero, List.take_succ_cons, List.take_nil, List.drop_zero, List.drop_succ_cons, List.drop_nil, List.nil_append, List.cons_append, List.append_nil, List.length_cons, List.length_nil, Nat.zero_add, Nat.add_zero, Nat.reduceAdd, Nat.reduceSub]; rfl) | rfl | fail)); try simp only [Act.put, List.setIfInBounds_toArray, List.set_cons_zero, List.set_cons_succ]) | (refine sAlloc H ?_ ?zho ?_ ?zhd ?zhg ?_ ?zhz ?_ ?zhx ?_; (case zho => rfl); (case zhd => rfl); (case zhz => exact Tzr.out); (case zhg => (first | rfl | (go_simp; done) | fail)); (case zhx => (simp only [Value.cells]; rfl)); intro g_ w_ HN; clear H; have H := HN; clear HN; try simp only [Act.put, List.setIfInBounds_toArray, List.set_cons_zero, List.set_cons_succ]) | (refine sStore H ?_ ?_ ?_ ?zho ?zhd ?zhg ?_ ?_ ?zhp ?_ ?zhx ?_ ?zhs ?zhn ?zh1 ?_ ?_ ?_ ?_ ?zht ?zhle ?zhds ?_; (case zho => rfl); (case zhd => rfl); (case zhg => (first | rfl | (go_simp; done) | fail)); (case zhp => rfl); (case zhx => (first | (go_simp; done) | (go_simp; rfl) | rfl)); (case zhs => exact Tst.out); (case zhn => first | (with_reducible rfl) | (rw [List.length_map]; with_reducible assumption) | (simp; omega) | (simp; done) | fail); (case zh1 => (first | rfl | (simp [Value.oneCell']; done))); (case zht => (first | exact Turn.head | exact (Turn.tail Turn.head) | exact (Turn.tail (Turn.tail Turn.head)) | exact (Turn.tail (Turn.tail (Turn.tail Turn.head))) | exact (Turn.tail (Turn.tail (Turn.tail (Turn.tail Turn.head)))) | exact (Turn.tail (Turn.tail (Turn.tail (Turn.tail (Turn.tail Turn.head))))) | exact (Turn.tail (Turn.tail (Turn.tail (Turn.tail (Turn.tail (Turn.tail Turn.head)))))) | exact (Turn.tail (Turn.tail (Turn.tail (Turn.tail (Turn.tail (Turn.tail (Turn.tail Turn.head))))))) | exact (Turn.tail (Turn.tail (Turn.tail (Turn.tail (Turn.tail (Turn.tail (Turn.tail (Turn.tail Turn.head)))))))) | exact (Turn.tail (Turn.tail (Turn.tail (Turn.tail (Turn.tail (Turn.tail (Turn.tail (Turn.tail (Turn.tail Turn.head))))))))))); (case zhle => (first | (with_reducible assumption) | omega | (simp; omega) | (simp; done) | fail)); (case zhds => (first | (with_reducible refine setWhole _ _ ?_; first | (simp; omega) | (simp; done) | fail) | (with_reducible refine setRange_map _ _ _ _ ?_; first | (with_reducible assumption) | omega) | (with_reducible refine setRange_app _ _ _ _ _ ?_; first | (with_reducible assumption) | omega) | (with_reducible refine take_map_app _ _ _ _ ?_; with_reducible assumption) | (with_reducible refine take_map_w _ _ _ ?_; with_reducible assumption) | (simp only [List.take_zero, List.take_succ_cons, List.take_nil, List.drop_zero, List.drop_succ_cons, List.drop_nil, List.nil_append, List.cons_append, List.append_nil, List.length_cons, List.length_nil, Nat.zero_add, Nat.add_zero, Nat.reduceAdd, Nat.reduceSub]; rfl) | rfl | fail)); intro w_ HN; clear H; have H := HN; clear HN; try simp only [Act.put, List.setIfInBounds_toArray, List.set_cons_zero, List.set_cons_succ]) | (refine sStoreRow H ?_ ?_ ?_ ?zho ?zhd ?zhg ?_ ?_ ?zhp ?_ ?zhx ?zhu ?zhs ?zh1 ?_ ?_ ?_ ?_ ?zht ?zhj ?_; (case zho => rfl); (case zhd => rfl); (case zhs => kernel_rfl); (case zhg => (first | rfl | (go_simp; done) | fail)); (case zhp => rfl); (case zhx => (first | (go_simp; done) | (go_simp; rfl) | rfl)); (case zhu => rfl); (case zh1 => rfl); (case zht => (first | exact Turn.head | exact (Turn.tail Turn.head) | exact (Turn.tail (Turn.tail Turn.head)) | exact (Turn.tail (Turn.tail (Turn.tail Turn.head))) | exact (Turn.tail (Turn.tail (Turn.tail (Turn.tail Turn.head)))) | exact (Turn.tail (Turn.tail (Turn.tail (Turn.tail (Turn.tail Turn.head))))) | exact (Turn.tail (Turn.tail (Turn.tail (Turn.tail (Turn.tail (Turn.tail Turn.head)))))) | exact (Turn.tail (Turn.tail (Turn.tail (Turn.tail (Turn.tail (Turn.tail (Turn.tail Turn.head))))))) | exact (Turn.tail (Turn.tail (Turn.tail (Turn.tail (Turn.tail (Turn.tail (Turn.tail (Turn.tail Turn.head)))))))) | exact (Turn.tail (Turn.tail (Turn.tail (Turn.tail (Turn.tail (Turn.tail (Turn.tail (Turn.tail (Turn.tail Turn.head))))))))))); (case zhj => (first | (with_reducible assumption) | omega | (simp; omega) | (simp; done) | fail)); intro w_ HN; clear H; have H := HN; clear HN; try simp only [Act.put, List.setIfInBounds_toArray, List.set_cons_zero, List.set_cons_succ])))
  (go_ret; exact ⟨by first | rfl | (simp; done), H.sub (List.nil_sublist _)⟩)
set_option maxRecDepth 100000 in
set_option maxHeartbeats 400000 in
theorem sub_new (w : World) (K : Option Addr) (key : List Int) (nk ck : Nat) (s : ByteArray) (hnk : nk = key.length) (hK : Rd w K (key.map (.int .u8))) (hkm : key.length ≤ 800000) (hs : s.size ≤ 800000) :
    Calls Try.prog 33 #[.slice K nk ck, .string s] w fun e w' => ∃ g, e = .returned (.slice (some ⟨g, 0, none⟩) 32 32) ∧ St w w' [.blk g ((tag key (nums s)).map (.int .u8)) 26] := by
  subst hnk
  have H := St.ro1 hK
  have hnl := nums_length s
  have htl := tag_len key (nums s)
  go_enter Try.func33, Try.ntmps33
  go_wp2_with (first | (go_at_call 30; refine (mac_one _ K key _ ck _ 1 _ (nums s) _ _ rfl hnl.symm (H.rdRo (by repeat (first | exact List.Mem.head _ | assumption | apply List.Mem.tail))) (H.rdOwn (List.Mem.head _)) (H.rdRo (by repeat (first | exact List.Mem.head _ | assumption | apply List.Mem.tail))) hkm (by omega)).mono ?_; rintro e_ w_ ⟨rfl, hb_⟩; have HN := H.app hb_; clear hb_; clear H; have H := HN; clear HN) | ((with_reducible refine wpGate ?_); first | (refine sAlloc H ?_ ?zho ?_ ?zhd ?zhg ?_ ?zhz ?_ ?zhx ?_; (case zho => rfl); (case zhd => rfl); (case zhz => exact Tzr.out); (case zhg => (first | rfl | (go_simp; done) | fail)); (case zhx => (simp only [Value.cells]; rfl)); intro g_ w_ HN; clear H; have H := HN; clear HN; try simp only [Act.put, List.setIfInBounds_toArray, List.set_cons_zero, List.set_cons_succ]) | (refine sStore H ?_ ?_ ?_ ?zho ?zhd ?zhg ?_ ?_ ?zhp ?_ ?zhx ?_ ?zhs ?zhn ?zh1 ?_ ?_ ?_ ?_ ?zht ?zhle ?zhds ?_; (case zho => rfl); (case zhd => rfl); (case zhg => (first | rfl | (go_simp; done) | fail)); (case zhp => rfl); (case zhx => (first | (go_simp; done) | (go_simp; rfl) | rfl)); (case zhs => exact Tst.out); (case zhn => first | (with_reducible rfl) | (rw [List.length_map]; with_reducible assumption) | (simp; omega) | (simp; done) | fail); (case zh1 => (first | rfl | (simp [Value.oneCell']; done))); (case zht => (first | exact Turn.head | exact (Turn.tail Turn.head) | exact (Turn.tail (Turn.tail Turn.head)) | exact (Turn.tail (Turn.tail (Turn.tail Turn.head))) | exact (Turn.tail (Turn.tail (Turn.tail (Turn.tail Turn.head)))) | exact (Turn.tail (Turn.tail (Turn.tail (Turn.tail (Turn.tail Turn.head))))) | exact (Turn.tail (Turn.tail (Turn.tail (Turn.tail (Turn.tail (Turn.tail Turn.head)))))) | exact (Turn.tail (Turn.tail (Turn.tail (Turn.tail (Turn.tail (Turn.tail (Turn.tail Turn.head))))))) | exact (Turn.tail (Turn.tail (Turn.tail (Turn.tail (Turn.tail (Turn.tail (Turn.tail (Turn.tail Turn.head)))))))) | exact (Turn.tail (Turn.tail (Turn.tail (Turn.tail (Turn.tail (Turn.tail (Turn.tail (Turn.tail (Turn.tail Turn.head))))))))))); (case zhle => (first | (with_reducible assumption) | omega | (simp; omega) | (simp; done) | fail)); (case zhds => (first | (with_reducible refine setWhole _ _ ?_; first | (simp; omega) | (simp; done) | fail) | (with_reducible refine setRange_map _ _ _ _ ?_; first | (with_reducible assumption) | omega) | (with_reducible refine setRange_app _ _ _ _ _ ?_; first | (with_reducible assumption) | omega) | (with_reducible refine take_map_app _ _ _ _ ?_; with_reducible assumption) | (with_reducible refine take_map_w _ _ _ ?_; with_reducible assumption) | (simp only [List.take_zero, List.take_succ_cons, List.take_nil, List.drop_zero, List.drop_succ_cons, List.drop_nil, List.nil_append, List.cons_append, List.append_nil, List.length_cons, List.length_nil, Nat.zero_add, Nat.add_zero, Nat.reduceAdd, Nat.reduceSub]; rfl) | rfl | fail)); intro w_ HN; clear H; have H := HN; clear HN; try simp only [Act.put, List.setIfInBounds_toArray, List.set_cons_zero, List.set_cons_succ]) | (refine sStoreRow H ?_ ?_ ?_ ?zho ?zhd ?zhg ?_ ?_ ?zhp ?_ ?zhx ?zhu ?zhs ?zh1 ?_ ?_ ?_ ?_ ?zht ?zhj ?_; (case zho => rfl); (case zhd => rfl); (case zhs => kernel_rfl); (case zhg => (first | rfl | (go_simp; done) | fail)); (case zhp => rfl); (case zhx => (first | (go_simp; done) | (go_simp; rfl) | rfl)); (case zhu => rfl); (case zh1 => rfl); (case zht => (first | exact Turn.head | exact (Turn.tail Turn.head) | exact (Turn.tail (Turn.tail Turn.head)) | exact (Turn.tail (Turn.tail (Turn.tail Turn.head))) | exact (Turn.tail (Turn.tail (Turn.tail (Turn.tail Turn.head)))) | exact (Turn.tail (Turn.tail (Turn.tail (Turn.tail (Turn.tail Turn.head))))) | exact (Turn.tail (Turn.tail (Turn.tail (Turn.tail (Turn.tail (Turn.tail Turn.head)))))) | exact (Turn.tail (Turn.tail (Turn.tail (Turn.tail (Turn.tail (Turn.tail (Turn.tail Turn.head))))))) | exact (Turn.tail (Turn.tail (Turn.tail (Turn.tail (Turn.tail (Turn.tail (Turn.tail (Turn.tail Turn.head)))))))) | exact (Turn.tail (Turn.tail (Turn.tail (Turn.tail (Turn.tail (Turn.tail (Turn.tail (Turn.tail (Turn.tail Turn.head))))))))))); (case zhj => (first | (with_reducible assumption) | omega | (simp; omega) | (simp; done) | fail)); intro w_ HN; clear H; have H := HN; clear HN; try simp only [Act.put, List.setIfInBounds_toArray, List.set_cons_zero, List.set_cons_succ]) | (refine sLitN H ?_ ?_ ?_ ?_ ?zho ?_ ?zhd ?zhg ?zht ?_ ?_ ?zhi ?_ ?zhv ?zhvs ?zhn ?zh1 ?zh0 ?zhm ?_; (case zho => rfl); (case zhd => rfl); (case zht => exact Tun.out); (case zhi => exact Tzi.out); (case zhg => (first | rfl | (go_simp; done) | fail)); (case zhv => (go_simp; rfl)); (case zhvs => rfl); (case zhn => rfl); (case zh1 => first | rfl | (simp [Value.cells, Value.oneCell']; done) | fail); (case zh0 => decide); (case zhm => decide); intro g_ w_ HN; clear H; have H := HN; clear HN; try simp only [Act.put, List.setIfInBounds_toArray, List.set_cons_zero, List.set_cons_succ]) | (refine sLit H ?_ ?_ ?_ ?_ ?zho ?_ ?zhd ?zhg ?_ ?zhlen ?zhm ?zhrun ?_; (case zho => rfl); (case zhd => rfl); (case zhg => (first | rfl | (go_simp; done) | fail)); (case zhrun => first | (go_simp; done) | (go_simp; rfl)); (case zhlen => rfl); (case zhm => first | (simp [maxLen]; done) | (unfold maxLen; omega)); intro g_ w_ HN; clear H; have H := HN; clear HN; try simp only [Act.put, List.setIfInBounds_toArray, List.set_cons_zero, List.set_cons_succ]) | (refine sSliceArr ?_ ?_ ?_ ?zho ?_ ?zhd ?zhg ?_ ?zht ?zhs ?_ ?_ ?zhx ?_; (case zho => rfl); (case zhd => rfl); (case zht => exact Tar.out); (case zhs => kernel_rfl); (case zhg => (first | rfl | (go_simp; done) | fail)); (case zhx => rfl); try simp only [Act.put, List.setIfInBounds_toArray, List.set_cons_zero, List.set_cons_succ]) | (refine sConvSB H ?_ ?_ ?_ ?_ ?zho ?_ ?zhd ?zhg ?zhs ?zhdt ?zhe ?_ ?zhx ?_; (case zho => rfl); (case zhd => rfl); (case zhs => exact Tstr.out); (case zhdt => exact Tun.out); (case zhe => exact Tu8.out); (case zhg => (first | rfl | (go_simp; done) | fail)); (case zhx => rfl); intro A_ c_ w_ HN; clear H; have H := HN; clear HN; try simp only [Act.put, List.setIfInBounds_toArray, List.set_cons_zero, List.set_cons_succ])))
  (go_ret; exact ⟨_, rfl, H.sub (by repeat (first | exact List.Sublist.refl _ | exact List.nil_sublist _ | apply List.Sublist.cons_cons | apply List.Sublist.cons))⟩)
theorem ofInt8_zero (v : Int) (h0 : 0 ≤ v) (h1 : v ≤ 255) : BitVec.ofInt 8 v = 0#8 ↔ v = 0 := by
  constructor
  · intro h
    have := congrArg BitVec.toNat h
    simp at this
    omega
  · rintro rfl; rfl
theorem ofInt8_inj (a b : Int) (h0 : 0 ≤ a) (h1 : a ≤ 255) (h2 : 0 ≤ b) (h3 : b ≤ 255) : BitVec.ofInt 8 a = BitVec.ofInt 8 b ↔ a = b := by
  constructor
  · intro h
    have := congrArg BitVec.toNat h
    simp at this
    omega
  · rintro rfl; rfl
theorem bits8_range (op : BinOp) (x y : Int) : 0 ≤ bits op .u8 x y ∧ bits op .u8 x y ≤ 255 := by
  unfold bits IntKind.wrap
  simp only []
  constructor <;> (simp [IntKind.max, IntKind.min, IntKind.bits, IntKind.signed]; try omega)
theorem bits8_ofInt (op : BinOp) (x y : Int) : BitVec.ofInt 8 (bits op .u8 x y) = (match op with
    | .and => BitVec.ofInt 8 x &&& BitVec.ofInt 8 y
    | .or => BitVec.ofInt 8 x ||| BitVec.ofInt 8 y
    | .xor => BitVec.ofInt 8 x ^^^ BitVec.ofInt 8 y
    | _ => BitVec.ofInt 8 x &&& ~~~BitVec.ofInt 8 y) := by
  unfold bits
  simp only []
  rw [IntKind.wrap_u8]
  apply BitVec.eq_of_toNat_eq
  rw [BitVec.toNat_ofInt]
  have : ∀ z : BitVec 8, (((z.toNat : Int) % 256) % ((2 ^ 8 : Nat) : Int)).toNat = z.toNat := by
    intro z
    have := z.isLt
    omega
  exact this _
theorem orx_zero (v a b : Int) (h0 : 0 ≤ v) (h1 : v ≤ 255) (a0 : 0 ≤ a) (a1 : a ≤ 255) (b0 : 0 ≤ b) (b1 : b ≤ 255) : bits .or .u8 v (bits .xor .u8 a b) = 0 ↔ v = 0 ∧ a = b := by
  obtain ⟨c0, c1⟩ := bits8_range .or v (bits .xor .u8 a b)
  rw [← ofInt8_zero _ c0 c1, bits8_ofInt]
  simp only [bits8_ofInt]
  rw [BitVec.or_eq_zero_iff, ofInt8_zero v h0 h1]
  rw [show (BitVec.ofInt 8 a ^^^ BitVec.ofInt 8 b = 0#8) ↔ BitVec.ofInt 8 a = BitVec.ofInt 8 b from BitVec.xor_eq_zero_iff, ofInt8_inj a b a0 a1 b0 b1]
end Go.Proofs.Ythlipmehnkhijaa
