/- Package flt's Round and Whole, the document's Whole, walked. No condition. -/
import Derived.Test.YtcpfangcibilaaaDoorQd
namespace Go.Proofs.YtcpfangcibilaaaDoor
set_option linter.unusedVariables false
set_option linter.unusedSimpArgs false
open Go.RowKit

theorem tiu (nm : String) (way : Ieee.Toward) (x : Nat) : Go.Extern.MathFloor.toIntegral nm way #[.float .f64 x] = (match FloatKind.f64.decode x with
    | .nan s t => if FloatKind.f64.format.quiet t = t then pure (.float .f64 x) else do
      let kept ← choose (.extern "math.Floor,Ceil,Trunc,RoundToEven.signallingNaN kept" 2)
      pure (.float .f64 (if kept == 1 then x else FloatKind.f64.encode (.nan s (FloatKind.f64.format.quiet t))))
    | d => pure (.float .f64 (FloatKind.f64.encode (d.integral way)))) := rfl
theorem write_round {x : Nat} (hx : x < 18446744073709551616) (h : isn x = false) : Ieee.double.write ((Ieee.double.read x).integral .even) = roundW x := by
  have h0 := isn_false h
  by_cases h1 : rung x = INF
  · rw [read_inf h1]
    show Ieee.double.word (sgn x) Ieee.double.infRung = _
    unfold roundW
    rw [if_pos (by omega), dbl_inf, ← h1, word_self hx]
  · have h2 : rung x < INF := by omega
    rw [integral_even h2]
    show Ieee.double.nearest (sgn x) _ 0 = _
    rw [nearest_eq _ _ _ (by omega)]
    unfold roundW rwR
    rw [if_neg (by omega), show (0 + 1074 : Int).toNat = 1074 from rfl]
theorem roundExt_fin (x : Nat) (hx : x < 18446744073709551616) (h : isn x = false) (w : World) : (callFunc 86 #[.float .f64 x]).run Tryd.prog w = .ok (.value (.float .f64 (roundW x))) w := by
  have h6 := @run_callFunc_extern Tryd.prog 86 _ (Go.Extern.MathFloor.toIntegral "math.RoundToEven" .even) Tryd.func86 (by kernel_rfl) (by kernel_rfl) (by kernel_rfl) (by kernel_rfl)
  rw [h6, ← write_round hx h]
  have h0 := isn_false h
  by_cases h1 : rung x = INF
  · have e := read_inf h1
    rw [tiu]; simp only [show FloatKind.f64.decode x = Ieee.double.read x from rfl, e]
    rfl
  · obtain ⟨m, p, e, _, _⟩ := read_fin (x := x) (by omega)
    rw [tiu]; simp only [show FloatKind.f64.decode x = Ieee.double.read x from rfl, e]
    rfl
theorem quiet_isn {s : Bool} {t : Nat} (ht : t < 4503599627370496) : isn (FloatKind.f64.encode (.nan s (FloatKind.f64.format.quiet t))) = true ∧ FloatKind.f64.encode (.nan s (FloatKind.f64.format.quiet t)) < 18446744073709551616 := by
  show isn (Ieee.double.write (.nan s (Ieee.double.quiet t))) = true ∧ Ieee.double.write (.nan s (Ieee.double.quiet t)) < 18446744073709551616
  have e : Ieee.double.quiet t = t ||| 2251799813685248 := rfl
  have h1 : t ||| 2251799813685248 < 4503599627370496 := Nat.or_lt_two_pow (n := 52) ht (by decide)
  have h2 : 2251799813685248 ≤ t ||| 2251799813685248 := Nat.right_le_or
  have hw : Ieee.double.write (.nan s (Ieee.double.quiet t)) = Ieee.double.word s (INF + (t ||| 2251799813685248)) := by
    show Ieee.double.word s (Ieee.double.infRung + Ieee.double.quiet t % Ieee.double.binade) = _
    rw [dbl_inf, dbl_binade, e, Nat.mod_eq_of_lt h1]
  have hp : INF = 9218868437227405312 := rfl
  rw [hw]
  refine ⟨?_, word_lt _ (by omega)⟩
  unfold isn
  rw [rung_word _ (by omega)]
  exact decide_eq_true (by omega)
theorem roundExt_nan (x : Nat) (hx : x < 18446744073709551616) (h : isn x = true) (w : World) : ∃ y w', y < 18446744073709551616 ∧ isn y = true ∧ (w' = w ∨ w' = w.drew) ∧ (callFunc 86 #[.float .f64 x]).run Tryd.prog w = .ok (.value (.float .f64 y)) w' := by
  have h6 := @run_callFunc_extern Tryd.prog 86 _ (Go.Extern.MathFloor.toIntegral "math.RoundToEven" .even) Tryd.func86 (by kernel_rfl) (by kernel_rfl) (by kernel_rfl) (by kernel_rfl)
  have h0 := isn_true h
  have e := read_nan h0
  have hr := rung_lt x
  have hp : INF = 9218868437227405312 := rfl
  obtain ⟨q1, q2⟩ := quiet_isn (s := sgn x) (t := rung x - INF) (by omega)
  rw [h6]
  rw [tiu]; simp only [show FloatKind.f64.decode x = Ieee.double.read x from rfl, e]
  by_cases hq : FloatKind.f64.format.quiet (rung x - INF) = rung x - INF
  · rw [if_pos hq]
    exact ⟨x, w, hx, h, .inl rfl, rfl⟩
  · rw [if_neg hq]
    have hf : (Question.extern "math.Floor,Ceil,Trunc,RoundToEven.signallingNaN kept" 2).forced = false := by decide
    obtain ⟨c, hc⟩ : ∃ c, (Question.extern "math.Floor,Ceil,Trunc,RoundToEven.signallingNaN kept" 2).cut (w.tape w.drawn (Question.extern "math.Floor,Ceil,Trunc,RoundToEven.signallingNaN kept" 2)) = c := ⟨_, rfl⟩
    by_cases hk : c = 1
    · refine ⟨x, w.drew, hx, h, .inr rfl, ?_⟩
      simp [Result.andThen, hf, hc, hk]
    · refine ⟨_, w.drew, q2, q1, .inr rfl, ?_⟩
      simp [Result.andThen, hf, hc, hk]
theorem round_any (w0 w : World) (L : List Ent) (x : Nat) (hx : x < 18446744073709551616) (H : St w0 w L) : Calls Tryd.prog 32 #[.float .f64 x] w fun e w' => ∃ y, e = .returned (.float .f64 y) ∧ RoundsTo x y ∧ St w0 w' L := by
  cases h : isn x
  · have h2 := roundExt_fin x hx h w
    have hl : roundW x < 18446744073709551616 := by
      by_cases h1 : rung x = INF
      · unfold roundW; rw [if_pos (by omega)]; exact hx
      · have := isn_false h; exact (roundW_fin (by omega)).1
    go_enter Tryd.func32, Tryd.ntmps32
    go_wp2
    go_ret
    exact ⟨_, rfl, ⟨hl, fun h3 => (by rw [h] at h3; cases h3), fun _ => rfl⟩, H⟩
  · obtain ⟨y, w2, h1, h2, h3, h4⟩ := roundExt_nan x hx h w
    have H2 : St w0 w2 L := by
      rcases h3 with rfl | rfl
      · exact H
      · exact H.drew
    go_enter Tryd.func32, Tryd.ntmps32
    go_wp2
    go_ret
    exact ⟨_, rfl, ⟨h1, fun _ => h2, fun h5 => (by rw [h] at h5; cases h5)⟩, H2⟩
end Go.Proofs.YtcpfangcibilaaaDoor
