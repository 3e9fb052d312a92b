/- Package drr: the chapter's examples (lodgelaw25.first). No condition. -/
import Derived.Test.YtgbgplhiiaiifaaDoorKg
namespace Go.Proofs.YtgbgplhiiaiifaaDoor
set_option linter.unusedVariables false
set_option linter.unusedSimpArgs false
open Go.RowKit

theorem new_rw (g : Nat) (fx : Bool) : ∀ e ∈ rgE g fx (-1) (List.replicate 16 none), e.rd = e.wr := by
  intro e he
  have : e = .blk g (rgC fx (-1) (List.replicate 16 none)) 65 := by
    unfold rgE at he
    rcases List.mem_cons.1 he with h | h
    · exact h
    · simp [psE, opE, List.replicate] at h
  rw [this]; rfl
theorem free1 (p : Pc) : FreeAt ((List.replicate 16 none).set 0 (some p)) 1 := ⟨rfl, fun t h => by
  obtain rfl : t = 0 := by omega
  simp⟩
set_option maxRecDepth 100000 in
set_option maxHeartbeats 1000000 in
theorem first25_any (w0 w : World) (L : List Ent) (H : St w0 w L) : Calls Tryd.prog 9 #[] w fun e w' => e = .returned (.bool true) ∧ St w0 w' L := by
  go_enter Tryd.func9, Tryd.ntmps9
  have hbad : [1000, 1000, 1000].any badC = false := by decide
  have hsv : sv (0 + 1024) [1000, 1000, 1000] = ([1000], [1000, 1000], 24) := by simp [sv]
  
  go_wp2_with (first | go_skip | (go_at_call 11; refine (new_any _ false).mono ?_; rintro e_ w_ ⟨g, rfl, HM⟩; have HN := H.call HM (new_rw _ _); clear HM; clear H; have H := HN; clear HN) | (go_at_call 12; refine (join_ok _ _ _ _ g false (-1) (List.replicate 16 none) (by (with_reducible first | exact .here _ | exact .tail _ (.here _) | exact .tail _ (.tail _ (.here _)) | exact .tail _ (.tail _ (.tail _ (.here _))) | exact .skip _ (.here _) | exact .tail _ (.skip _ (.here _)) | exact .tail _ (.tail _ (.skip _ (.here _))))) rfl 0 ⟨rfl, fun t h => by omega⟩ 1024 (by decide) (by decide) H).mono ?_; rintro e_ w_ ⟨g0, rfl, HN⟩; clear H; have H := HN; clear HN) | ((with_reducible refine wpGate ?_); first | (refine sLitN H ?_ ?_ ?_ ?_ ?Zo ?_ ?Zd ?Zg ?Zt ?_ ?_ ?Zi ?_ ?Zv ?Zvs ?Zn ?Z1 ?Z0 ?Zm ?_; (case Zo => rfl); (case Zd => rfl); (case Zt => exact Tun.out); (case Zi => exact Tzi.out); (case Zg => (first | rfl | (go_simp; done) | fail)); (case Zv => (go_simp; rfl)); (case Zvs => rfl); (case Zn => rfl); (case Z1 => first | rfl | (simp [Value.cells, Value.oneCell']; done) | fail); (case Z0 => decide); (case Zm => decide); intro g_ w_ HN; clear H; have H := HN; clear HN; try simp only [q_1, q_2, q_3, q_4]) | (refine sLit H ?_ ?_ ?_ ?_ ?Zo ?_ ?Zd ?Zg ?_ ?Zlen ?Zm ?Zrun ?_; (case Zo => rfl); (case Zd => rfl); (case Zg => (first | rfl | (go_simp; done) | fail)); (case Zrun => first | (go_simp; done) | (go_simp; rfl)); (case Zlen => rfl); (case Zm => first | (simp [maxLen]; done) | (unfold maxLen; omega)); intro g_ w_ HN; clear H; have H := HN; clear HN; try simp only [q_1, q_2, q_3, q_4])))
  obtain ⟨p1, hp1⟩ : ∃ x : List (Option Pc), x = (List.replicate 16 none).set 0 (some ⟨g0, none, 0, 1024, 0, 0, []⟩) := ⟨_, rfl⟩
  have f1 : FreeAt p1 1 := by rw [hp1]; exact free1 _
  have h1 : p1.length = 16 := by rw [hp1]; rfl
  have a1 : p1[0]? = some (some ⟨g0, none, 0, 1024, 0, 0, []⟩) := by rw [hp1]; rfl
  rw [← hp1] at H
  clear hp1
  go_wp2_with (first | go_skip | (go_at_call 12; refine (join_ok _ _ _ _ g false (-1) p1 (by (with_reducible first | exact .here _ | exact .tail _ (.here _) | exact .tail _ (.tail _ (.here _)) | exact .tail _ (.tail _ (.tail _ (.here _))) | exact .skip _ (.here _) | exact .tail _ (.skip _ (.here _)) | exact .tail _ (.tail _ (.skip _ (.here _))))) h1 1 f1 1024 (by decide) (by decide) H).mono ?_; rintro e_ w_ ⟨g1, rfl, HN⟩; clear H; have H := HN; clear HN) | ((with_reducible refine wpGate ?_); first | (refine sLitN H ?_ ?_ ?_ ?_ ?Zo ?_ ?Zd ?Zg ?Zt ?_ ?_ ?Zi ?_ ?Zv ?Zvs ?Zn ?Z1 ?Z0 ?Zm ?_; (case Zo => rfl); (case Zd => rfl); (case Zt => exact Tun.out); (case Zi => exact Tzi.out); (case Zg => (first | rfl | (go_simp; done) | fail)); (case Zv => (go_simp; rfl)); (case Zvs => rfl); (case Zn => rfl); (case Z1 => first | rfl | (simp [Value.cells, Value.oneCell']; done) | fail); (case Z0 => decide); (case Zm => decide); intro g_ w_ HN; clear H; have H := HN; clear HN; try simp only [q_1, q_2, q_3, q_4]) | (refine sLit H ?_ ?_ ?_ ?_ ?Zo ?_ ?Zd ?Zg ?_ ?Zlen ?Zm ?Zrun ?_; (case Zo => rfl); (case Zd => rfl); (case Zg => (first | rfl | (go_simp; done) | fail)); (case Zrun => first | (go_simp; done) | (go_simp; rfl)); (case Zlen => rfl); (case Zm => first | (simp [maxLen]; done) | (unfold maxLen; omega)); intro g_ w_ HN; clear H; have H := HN; clear HN; try simp only [q_1, q_2, q_3, q_4])))
  obtain ⟨p2, hp2⟩ : ∃ x : List (Option Pc), x = p1.set 1 (some ⟨g1, none, 0, 1024, 0, 0, []⟩) := ⟨_, rfl⟩
  have h2 : p2.length = 16 := by rw [hp2, List.length_set, h1]
  have a2 : p2[0]? = some (some ⟨g0, none, 0, 1024, 0, 0, []⟩) := by rw [hp2, List.getElem?_set_ne (by decide), a1]
  have b2 : p2[1]? = some (some ⟨g1, none, 0, 1024, 0, 0, []⟩) := by rw [hp2, List.getElem?_set_self (by omega)]
  rw [← hp2] at H
  clear hp2 a1 f1 h1
  have hrd : Rd w_ (some ⟨g_, 0, none⟩) ([1000, 1000, 1000].map (.int .i64)) := H.rdOwn (List.mem_cons_self ..)
  have hpu := push_ok _ _ _ _ g false (-1) p2 (.tail _ (.here _) : PullA (rgE g false (-1) p2) (Ent.own (some ⟨g_, 0, none⟩) [.int .i64 1000, .int .i64 1000, .int .i64 1000] 3 3 :: (rgE g false (-1) p2 ++ L)) _) h2 0 _ a2 _ [1000, 1000, 1000] 3 3 rfl hrd hbad (by simp) (by simp) H
  clear hrd
  go_wp2_with (first | go_skip | (go_at_call 13; refine (hpu).mono ?_; rintro e_ w_ ⟨X0, c0, rfl, HN⟩; clear hpu; clear H; have H := HN; clear HN; have HN := H.sub (List.sublist_cons_self _ _); clear H; have H := HN; clear HN) | ((with_reducible refine wpGate ?_); first | (refine sLitN H ?_ ?_ ?_ ?_ ?Zo ?_ ?Zd ?Zg ?Zt ?_ ?_ ?Zi ?_ ?Zv ?Zvs ?Zn ?Z1 ?Z0 ?Zm ?_; (case Zo => rfl); (case Zd => rfl); (case Zt => exact Tun.out); (case Zi => exact Tzi.out); (case Zg => (first | rfl | (go_simp; done) | fail)); (case Zv => (go_simp; rfl)); (case Zvs => rfl); (case Zn => rfl); (case Z1 => first | rfl | (simp [Value.cells, Value.oneCell']; done) | fail); (case Z0 => decide); (case Zm => decide); intro g_ w_ HN; clear H; have H := HN; clear HN; try simp only [q_1, q_2, q_3, q_4]) | (refine sLit H ?_ ?_ ?_ ?_ ?Zo ?_ ?Zd ?Zg ?_ ?Zlen ?Zm ?Zrun ?_; (case Zo => rfl); (case Zd => rfl); (case Zg => (first | rfl | (go_simp; done) | fail)); (case Zrun => first | (go_simp; done) | (go_simp; rfl)); (case Zlen => rfl); (case Zm => first | (simp [maxLen]; done) | (unfold maxLen; omega)); intro g_ w_ HN; clear H; have H := HN; clear HN; try simp only [q_1, q_2, q_3, q_4])))
  obtain ⟨p3, hp3⟩ : ∃ x : List (Option Pc), x = p2.set 0 (some ⟨g0, X0, c0, 1024, 0, 0, [1000, 1000, 1000]⟩) := ⟨_, rfl⟩
  have h3 : p3.length = 16 := by rw [hp3, List.length_set, h2]
  have a3 : p3[0]? = some (some ⟨g0, X0, c0, 1024, 0, 0, [1000, 1000, 1000]⟩) := by rw [hp3, List.getElem?_set_self (by omega)]
  have b3 : p3[1]? = some (some ⟨g1, none, 0, 1024, 0, 0, []⟩) := by rw [hp3, List.getElem?_set_ne (by decide), b2]
  have HN : St w0 w_ (Ent.own (some ⟨g_, 0, none⟩) [.int .i64 1000, .int .i64 1000, .int .i64 1000] 3 3 :: (rgE g false (-1) p3 ++ L)) := by rw [hp3]; exact H
  clear H
  have H := HN
  clear HN hp3 h2 a2 b2
  have hrd : Rd w_ (some ⟨g_, 0, none⟩) ([1000, 1000, 1000].map (.int .i64)) := H.rdOwn (List.mem_cons_self ..)
  have hpu := push_ok _ _ _ _ g false (-1) p3 (.tail _ (.here _) : PullA (rgE g false (-1) p3) (Ent.own (some ⟨g_, 0, none⟩) [.int .i64 1000, .int .i64 1000, .int .i64 1000] 3 3 :: (rgE g false (-1) p3 ++ L)) _) h3 1 _ b3 _ [1000, 1000, 1000] 3 3 rfl hrd hbad (by simp) (by simp) H
  clear hrd
  go_wp2_with (first | go_skip | (go_at_call 13; refine (hpu).mono ?_; rintro e_ w_ ⟨X1, c1, rfl, HN⟩; clear hpu; clear H; have H := HN; clear HN; have HN := H.sub (List.sublist_cons_self _ _); clear H; have H := HN; clear HN) | ((with_reducible refine wpGate ?_); first | (refine sLitN H ?_ ?_ ?_ ?_ ?Zo ?_ ?Zd ?Zg ?Zt ?_ ?_ ?Zi ?_ ?Zv ?Zvs ?Zn ?Z1 ?Z0 ?Zm ?_; (case Zo => rfl); (case Zd => rfl); (case Zt => exact Tun.out); (case Zi => exact Tzi.out); (case Zg => (first | rfl | (go_simp; done) | fail)); (case Zv => (go_simp; rfl)); (case Zvs => rfl); (case Zn => rfl); (case Z1 => first | rfl | (simp [Value.cells, Value.oneCell']; done) | fail); (case Z0 => decide); (case Zm => decide); intro g_ w_ HN; clear H; have H := HN; clear HN; try simp only [q_1, q_2, q_3, q_4]) | (refine sLit H ?_ ?_ ?_ ?_ ?Zo ?_ ?Zd ?Zg ?_ ?Zlen ?Zm ?Zrun ?_; (case Zo => rfl); (case Zd => rfl); (case Zg => (first | rfl | (go_simp; done) | fail)); (case Zrun => first | (go_simp; done) | (go_simp; rfl)); (case Zlen => rfl); (case Zm => first | (simp [maxLen]; done) | (unfold maxLen; omega)); intro g_ w_ HN; clear H; have H := HN; clear HN; try simp only [q_1, q_2, q_3, q_4])))
  obtain ⟨P0, hP0⟩ : ∃ P0 : Pc, P0 = ⟨g0, X0, c0, 1024, 0, 0, [1000, 1000, 1000]⟩ := ⟨_, rfl⟩
  obtain ⟨P1, hP1⟩ : ∃ P1 : Pc, P1 = ⟨g1, X1, c1, 1024, 0, 0, [1000, 1000, 1000]⟩ := ⟨_, rfl⟩
  obtain ⟨ps, hps⟩ : ∃ ps : List (Option Pc), ps = p3.set 1 (some P1) := ⟨_, rfl⟩
  have HN : St w0 w_ (rgE g false (-1) ps ++ L) := by rw [hps, hP1]; exact H
  clear H
  have h16 : ps.length = 16 := by rw [hps, List.length_set, h3]
  have k0 : ps[0]? = some (some P0) := by rw [hps, List.getElem?_set_ne (by decide), a3, hP0]
  have k1 : ps[1]? = some (some P1) := by rw [hps, List.getElem?_set_self (by omega)]
  clear a3 b3 h3
  have o0 : okK false ps 0 = true := by rw [okK_at k0, hP0]; rfl
  have o1 : okK false ps 1 = true := by rw [okK_at k1, hP1]; rfl
  clear hps
  have t0 := turn_ok _ _ _ _ g false (-1) ps (by (with_reducible first | exact .here _ | exact .tail _ (.here _) | exact .tail _ (.tail _ (.here _)) | exact .tail _ (.tail _ (.tail _ (.here _))) | exact .skip _ (.here _) | exact .tail _ (.skip _ (.here _)) | exact .tail _ (.tail _ (.skip _ (.here _))))) h16 0 (by decide) (by decide) 0 P0 k0 ⟨0, by decide, rfl, o0, fun t h => by omega⟩ (by rw [hP0]; simp) (by rw [hP0]; simp) (by rw [hP0]; simp) (by rw [hP0]; simp) (by rw [hP0]; simp) (by rw [hP0]; simp) (by rw [hP0]; simp) (by rw [hP0]; intro c h; simp at h; omega) HN
  have e0 : sv (P0.d + P0.q) P0.l = ([1000], [1000, 1000], 24) := by rw [hP0]; exact hsv
  rw [e0] at t0
  replace e0 := Aside.mk e0
  clear HN
  go_wp2_with (first | go_skip | (go_at_call 14; refine (t0).mono ?_; rintro e_ w_ ⟨Y0, d0, B0, b0, rfl, HN⟩; clear t0; have H := HN.sub (List.sublist_cons_self _ _); clear HN) | ((with_reducible refine wpGate ?_); first | (refine sLitN H ?_ ?_ ?_ ?_ ?Zo ?_ ?Zd ?Zg ?Zt ?_ ?_ ?Zi ?_ ?Zv ?Zvs ?Zn ?Z1 ?Z0 ?Zm ?_; (case Zo => rfl); (case Zd => rfl); (case Zt => exact Tun.out); (case Zi => exact Tzi.out); (case Zg => (first | rfl | (go_simp; done) | fail)); (case Zv => (go_simp; rfl)); (case Zvs => rfl); (case Zn => rfl); (case Z1 => first | rfl | (simp [Value.cells, Value.oneCell']; done) | fail); (case Z0 => decide); (case Zm => decide); intro g_ w_ HN; clear H; have H := HN; clear HN; try simp only [q_1, q_2, q_3, q_4]) | (refine sLit H ?_ ?_ ?_ ?_ ?Zo ?_ ?Zd ?Zg ?_ ?Zlen ?Zm ?Zrun ?_; (case Zo => rfl); (case Zd => rfl); (case Zg => (first | rfl | (go_simp; done) | fail)); (case Zrun => first | (go_simp; done) | (go_simp; rfl)); (case Zlen => rfl); (case Zm => first | (simp [maxLen]; done) | (unfold maxLen; omega)); intro g_ w_ HN; clear H; have H := HN; clear HN; try simp only [q_1, q_2, q_3, q_4])))
  obtain ⟨qs, hqs⟩ : ∃ qs : List (Option Pc), qs = ps.set 0 (some { P0 with A := Y0, c := d0, d := 24, s := P0.s + [1000].sum, l := [1000, 1000] }) := ⟨_, rfl⟩
  have HN : St w0 w_ (rgE g false 0 qs ++ L) := by rw [hqs]; exact H
  clear H
  have h16q : qs.length = 16 := by rw [hqs, List.length_set, h16]
  have k1q : qs[1]? = some (some P1) := by rw [hqs, List.getElem?_set_ne (by decide), k1]
  have o1q : okK false qs 1 = true := by rw [okK_at k1q, hP1]; rfl
  clear hqs
  have t1 := turn_ok _ _ _ _ g false 0 qs (by (with_reducible first | exact .here _ | exact .tail _ (.here _) | exact .tail _ (.tail _ (.here _)) | exact .tail _ (.tail _ (.tail _ (.here _))) | exact .skip _ (.here _) | exact .tail _ (.skip _ (.here _)) | exact .tail _ (.tail _ (.skip _ (.here _))))) h16q 1 (by decide) (by decide) 1 P1 k1q ⟨0, by decide, rfl, o1q, fun t h => by omega⟩ (by rw [hP1]; simp) (by rw [hP1]; simp) (by rw [hP1]; simp) (by rw [hP1]; simp) (by rw [hP1]; simp) (by rw [hP1]; simp) (by rw [hP1]; simp) (by rw [hP1]; intro c h; simp at h; omega) HN
  have e1 : sv (P1.d + P1.q) P1.l = ([1000], [1000, 1000], 24) := by rw [hP1]; exact hsv
  rw [e1] at t1
  replace e1 := Aside.mk e1
  clear HN hP0 hP1
  go_wp2_with (first | go_skip | (go_at_call 14; refine (t1).mono ?_; rintro e_ w_ ⟨Y1, d1, B1, b1, rfl, HN⟩; clear t1; have H := HN.sub (List.sublist_cons_self _ _); clear HN) | ((with_reducible refine wpGate ?_); first | (refine sLitN H ?_ ?_ ?_ ?_ ?Zo ?_ ?Zd ?Zg ?Zt ?_ ?_ ?Zi ?_ ?Zv ?Zvs ?Zn ?Z1 ?Z0 ?Zm ?_; (case Zo => rfl); (case Zd => rfl); (case Zt => exact Tun.out); (case Zi => exact Tzi.out); (case Zg => (first | rfl | (go_simp; done) | fail)); (case Zv => (go_simp; rfl)); (case Zvs => rfl); (case Zn => rfl); (case Z1 => first | rfl | (simp [Value.cells, Value.oneCell']; done) | fail); (case Z0 => decide); (case Zm => decide); intro g_ w_ HN; clear H; have H := HN; clear HN; try simp only [q_1, q_2, q_3, q_4]) | (refine sLit H ?_ ?_ ?_ ?_ ?Zo ?_ ?Zd ?Zg ?_ ?Zlen ?Zm ?Zrun ?_; (case Zo => rfl); (case Zd => rfl); (case Zg => (first | rfl | (go_simp; done) | fail)); (case Zrun => first | (go_simp; done) | (go_simp; rfl)); (case Zlen => rfl); (case Zm => first | (simp [maxLen]; done) | (unfold maxLen; omega)); intro g_ w_ HN; clear H; have H := HN; clear HN; try simp only [q_1, q_2, q_3, q_4])))
  (go_ret; exact ⟨rfl, H.sub (List.sublist_append_right _ _)⟩)
end Go.Proofs.YtgbgplhiiaiifaaDoor
