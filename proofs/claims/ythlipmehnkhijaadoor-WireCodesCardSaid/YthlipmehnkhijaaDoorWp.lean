/- Seal where what it reads may be read; the chapter's example. No condition but sizes. -/
import Derived.Test.YthlipmehnkhijaaDoorWc
namespace Go.Proofs.YthlipmehnkhijaaDoor
set_option linter.unusedVariables false
set_option linter.unusedSimpArgs false
open Go.RowKit

theorem seal_new (w : World) (K : Option Addr) (key : List Int) (nk ck : Nat) (ten ctr kind : Int) (B : Option Addr) (body : List Int) (nb cb : Nat) (hnk : nk = key.length) (hnb : nb = body.length) (hK : Rd w K (key.map (.int .u8))) (hB : Rd w B (body.map (.int .u8)))
    (t0 : 0 ≤ ten) (t1 : ten ≤ 65535) (k0 : 0 ≤ kind) (k1 : kind ≤ 255) (hbl : body.length ≤ 65536) (hkl : key.length ≤ 100000) :
    Calls Tryd.prog 11 #[.slice K nk ck, .agg #[.int .i64 ten, .int .u64 ctr, .int .i64 kind, .slice B nb cb]] w fun e w' => ∃ A c, e = .returned (.tuple #[.slice A (15 + body.length + 32) c, .nilIface]) ∧ St w w' [.own A ((sealL key ten ctr kind body).map (.int .u8)) c 5] :=
  (seal_ok w w _ K key nk ck ten ctr kind B body nb cb hnk hnb (List.Mem.head _) (List.Mem.tail _ (List.Mem.head _)) t0 t1 k0 k1 hbl hkl (St.ro2 hK hB)).mono fun e w' h => by
    obtain ⟨A, c, h1, h2⟩ := h
    exact ⟨A, c, h1, h2.sub ((List.nil_sublist _).cons_cons _)⟩
set_option maxRecDepth 100000 in
theorem first27_any (w : World) : Calls Tryd.prog 9 #[] w fun e w' => e = .returned (.bool true) ∧ St w w' [] := by
  have H := St.start w
  go_enter Tryd.func9, Tryd.ntmps9
  go_wp2_with (first | (go_at_call 11; refine (seal_new _ none [] 0 0 0 0 0 none [] 0 0 rfl rfl (Rd.none _ _) (Rd.none _ _) (by decide) (by decide) (by decide) (by decide) (by decide) (by decide)).mono ?_; rintro e_ w_ ⟨A1, c1, rfl, HM⟩; have HN := H.call HM (by simp [Ent.rd, Ent.wr]); clear HM; simp only [List.nil_append, List.cons_append] at HN; clear H; have H := HN; clear HN) | ((with_reducible refine wpGate ?_); first | (refine sBuildArr ?_ ?_ ?_ ?Zo ?_ ?Zd ?Zg ?_ ?Zt ?Zs ?_ ?Zz ?Zzn ?_ ?Zv ?Zvs ?Zn ?Z1 ?_; (case Zo => rfl); (case Zd => rfl); (case Zt => exact Tar.out); (case Zs => kernel_rfl); (case Zz => exact Tzr.out); (case Zzn => rfl); (case Zg => (first | rfl | (go_simp; done) | fail)); (case Zv => (go_simp; rfl)); (case Zvs => rfl); (case Zn => rfl); (case Z1 => first | rfl | (simp [Value.cells, Value.oneCell']; done) | fail); try simp only [q_1, q_2, q_3, q_4])))
  (go_ret; exact ⟨by first | rfl | (simp; done), H.sub (List.nil_sublist _)⟩)
end Go.Proofs.YthlipmehnkhijaaDoor
