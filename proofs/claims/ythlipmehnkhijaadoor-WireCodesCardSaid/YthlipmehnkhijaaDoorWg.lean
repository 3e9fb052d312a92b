/- What is sealed can be read again: plain. No condition. -/
import Derived.Test.YthlipmehnkhijaaDoorWe
namespace Go.Proofs.YthlipmehnkhijaaDoor
set_option linter.unusedVariables false
set_option linter.unusedSimpArgs false
open Go.RowKit
theorem seal_form (key : List Int) (ten ctr kind : Int) (body : List Int) : sealL key ten ctr kind body = lows ten 2 ++ (lows ctr 8 ++ (kind :: (lows body.length 4 ++ (body ++ tag key (headL ten ctr kind body))))) := by
  simp [sealL, headL]
theorem headOf_seal (key : List Int) (ten ctr kind : Int) (body : List Int) : headOf (sealL key ten ctr kind body) = headL ten ctr kind body := by
  unfold headOf
  rw [sealL_len, sealL, List.take_append_of_le_length (by rw [headL_len]; omega), List.take_of_length_le (by rw [headL_len]; omega)]
theorem tailOf_seal (key : List Int) (ten ctr kind : Int) (body : List Int) : tailOf (sealL key ten ctr kind body) = tag key (headL ten ctr kind body) := by
  unfold tailOf
  rw [sealL_len, sealL, List.drop_append_of_le_length (by rw [headL_len]; omega), List.drop_of_length_le (by rw [headL_len]; omega), List.nil_append]
theorem seal_ten (key : List Int) (ten ctr kind : Int) (body : List Int) (h0 : 0 ≤ ten) (h1 : ten ≤ 65535) : hig (sealL key ten ctr kind body) 2 = ten := by
  rw [seal_form, hig_lows, show (2 : Int) ^ (8 * 2) = 65536 from rfl]; omega
theorem seal_ctr (key : List Int) (ten ctr kind : Int) (body : List Int) (h0 : 0 ≤ ctr) (h1 : ctr < 18446744073709551616) : hig ((sealL key ten ctr kind body).drop 2) 8 = ctr := by
  rw [seal_form, List.drop_left' (lows_len ten 2), hig_lows, show (2 : Int) ^ (8 * 8) = 18446744073709551616 from rfl]; omega
theorem seal_drop10 (key : List Int) (ten ctr kind : Int) (body : List Int) : (sealL key ten ctr kind body).drop 10 = kind :: (lows body.length 4 ++ (body ++ tag key (headL ten ctr kind body))) := by
  rw [seal_form, ← List.append_assoc, List.drop_left' (by rw [List.length_append, lows_len, lows_len])]
theorem seal_kind (key : List Int) (ten ctr kind : Int) (body : List Int) : ix (sealL key ten ctr kind body) 10 = kind := by
  have := ix_drop (sealL key ten ctr kind body) 10 0
  rw [seal_drop10] at this
  rw [← this]; rfl
theorem seal_drop11 (key : List Int) (ten ctr kind : Int) (body : List Int) : (sealL key ten ctr kind body).drop 11 = lows body.length 4 ++ (body ++ tag key (headL ten ctr kind body)) := by
  rw [show 11 = 10 + 1 from rfl, ← List.drop_drop, seal_drop10]; rfl
theorem seal_num (key : List Int) (ten ctr kind : Int) (body : List Int) (h : body.length ≤ 65536) : hig ((sealL key ten ctr kind body).drop 11) 4 = (body.length : Int) := by
  rw [seal_drop11, hig_lows, show (2 : Int) ^ (8 * 4) = 4294967296 from rfl]; omega
theorem seal_body (key : List Int) (ten ctr kind : Int) (body : List Int) : ((sealL key ten ctr kind body).drop 15).take body.length = body := by
  rw [show 15 = 11 + 4 from rfl, ← List.drop_drop, seal_drop11, List.drop_left' (lows_len _ 4), List.take_left]
theorem seal_open (key : List Int) (ten ctr kind : Int) (body : List Int) (h : body.length ≤ 65536) : openBad (sealL key ten ctr kind body) = 0 := by
  unfold openBad
  rw [seal_num key ten ctr kind body h, sealL_len, if_neg (by omega), if_neg (by omega), if_neg (by omega), if_neg (by omega)]
theorem bytes8_append {l m : List Int} (h : Bytes8 l) (h2 : Bytes8 m) : Bytes8 (l ++ m) := by
  intro i
  by_cases hi : i < l.length
  · rw [ix_append_left hi]; exact h i
  · rw [ix_append_right (by omega)]; exact h2 _
theorem bytes8_one {x : Int} (h0 : 0 ≤ x) (h1 : x ≤ 255) : Bytes8 [x] := by
  intro i
  cases i with
  | zero => exact ⟨h0, h1⟩
  | succ n => simp [ix]
theorem bytes8_seal (key : List Int) (ten ctr kind : Int) (body : List Int) (k0 : 0 ≤ kind) (k1 : kind ≤ 255) (hb : Bytes8 body) : Bytes8 (sealL key ten ctr kind body) :=
  bytes8_append (bytes8_append (bytes8_append (bytes8_append (bytes8_append (lows_bytes _ _) (lows_bytes _ _)) (bytes8_one k0 k1)) (lows_bytes _ _)) hb) (tag_bytes _ _)
end Go.Proofs.YthlipmehnkhijaaDoor
