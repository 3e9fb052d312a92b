/- The statement QuantFits: its row and its card, out of its walk. No condition. -/
import Derived.Test.YtcpfangcibilaaaDoorEw
import Derived.Test.YtcpfangcibilaaaDoorRo
import Derived.Test.YtcpfangcibilaaaDoorRs
import Derived.Test.YtcpfangcibilaaaDoorCards
import Derived.Test.YtcpfangcibilaaaDoorTie
import Derived.ProofKit
import Derived.OpenShut
import Derived.ShutString
import Derived.ChangeOld
import Derived.Below
import Derived.Carry
import Derived.LaidMore
import Derived.LaidHandle
import Derived.Stop.LaidErr
import Derived.Stop.Joined
import Derived.SevenTiedAt
import Derived.SizedLaws
import Derived.Lib.SmallJoins
import Derived.Lib.LaidTab
namespace Go.Proofs.YtcpfangcibilaaaDoor.quantFits
set_option linter.unusedVariables false
set_option linter.unusedSimpArgs false
open Go.ChangeShapes Go.WideShapes Go.ChangeAt Go.RowKit
open Go.ChangeMaps (open_string shut_string)
theorem own : ownKnob Tryd.prog.godebug = none := by kernel_rfl
theorem laidOut : laidOutB Tryd.prog = true := by kernel_rfl
theorem star : "*" ++ "errors.errorString" = "*errors.errorString" := by decide
theorem rowErr (u : TypeId) (h : Tryd.prog.typeName? 3 u = some "*errors.errorString") : u = 119 :=
  typeName_ptr_named (nm := "errors.errorString") (by rw [star]; kernel_rfl) (by kernel_rfl) (by decide) u (by rw [star]; exact h)
theorem cellsE : Tryd.prog.cellsOf 137 = 1 := by kernel_rfl
theorem cellsS : Tryd.prog.cellsOf 9 = 1 := by kernel_rfl
def txt (c : Int) : List UInt8 := if c = 101 then [110, 111, 116, 32, 116, 104, 101, 32, 115, 104, 97, 112, 101, 32, 116, 104, 97, 116, 32, 105, 116, 32, 104, 97, 115, 32, 116, 111, 32, 104, 97, 118, 101] else if c = 102 then [97, 32, 110, 117, 109, 98, 101, 114, 32, 111, 117, 116, 32, 111, 102, 32, 105, 116, 115, 32, 114, 97, 110, 103, 101] else if c = 103 then [110, 111, 32, 115, 117, 99, 104, 32, 107, 105, 110, 100] else if c = 104 then [116, 111, 111, 32, 109, 97, 110, 121] else if c = 105 then [105, 116, 32, 101, 110, 100, 115, 32, 116, 111, 111, 32, 101, 97, 114, 108, 121] else if c = 106 then [116, 104, 101, 114, 101, 32, 105, 115, 32, 110, 111, 32, 114, 111, 111, 109] else if c = 107 then [116, 104, 101, 114, 101, 32, 105, 115, 32, 110, 111, 110, 101] else if c = 108 then [105, 116, 32, 108, 105, 101, 115, 32, 111, 118, 101, 114, 32, 119, 104, 97, 116, 32, 105, 115, 32, 114, 101, 97, 100] else if c = 109 then [105, 116, 32, 99, 111, 115, 116, 115, 32, 116, 111, 111, 32, 109, 117, 99, 104] else if c = 110 then [105, 116, 32, 103, 111, 101, 115, 32, 119, 104, 101, 114, 101, 32, 116, 104, 101, 114, 101, 32, 105, 115, 32, 110, 111, 116, 104, 105, 110, 103] else if c = 111 then [105, 116, 32, 103, 111, 101, 115, 32, 114, 111, 117, 110, 100, 32, 105, 110, 32, 97, 32, 114, 105, 110, 103] else if c = 112 then [110, 111, 32, 102, 117, 101, 108, 32, 105, 115, 32, 108, 101, 102, 116] else if c = 113 then [116, 104, 101, 32, 113, 117, 101, 117, 101, 32, 105, 115, 32, 102, 117, 108, 108] else if c = 114 then [98, 101, 121, 111, 110, 100, 32, 116, 104, 101, 32, 113, 117, 111, 116, 97] else if c = 115 then [110, 111, 32, 115, 117, 99, 104, 32, 114, 105, 103, 104, 116] else if c = 116 then [111, 102, 32, 97, 110, 32, 101, 108, 100, 101, 114, 32, 103, 101, 110, 101, 114, 97, 116, 105, 111, 110] else if c = 117 then [116, 104, 101, 32, 116, 97, 103, 32, 105, 115, 32, 97, 110, 111, 116, 104, 101, 114, 32, 111, 110, 101] else if c = 118 then [97, 32, 99, 111, 117, 110, 116, 101, 114, 32, 116, 104, 97, 116, 32, 105, 115, 32, 110, 111, 116, 32, 97, 98, 111, 118, 101, 32, 116, 104, 101, 32, 108, 97, 115, 116, 32, 111, 110, 101] else if c = 119 then [110, 111, 32, 115, 117, 99, 104, 32, 116, 101, 110, 97, 110, 116] else if c = 120 then [110, 111, 32, 115, 117, 99, 104, 32, 119, 111, 114, 100] else [110, 111, 32, 115, 117, 99, 104, 32, 110, 117, 109, 98, 101, 114]
theorem txt_inj : ∀ c, c ∈ codes → ∀ c', c' ∈ codes → txt c = txt c' → c = c' := by decide +kernel
theorem errs_of_laid {W : World} (h0 : laidMetH Tryd.prog Rows.quantFitsRow.laid W) : ∃ E : Int → Addr, ErrsAll E W := by
  rw [MakeChecks.laidMetH_plain _ _ _ (by kernel_rfl)] at h0
  have g0 : Tryd.prog.globalNamed "lodge/api.ErrShape" = some 5 := by kernel_rfl
  obtain ⟨a0, s0, c0, hc0, hs0, hb0⟩ := laid_sentinel2 h0 g0 (by kernel_rfl) Tryd.underlying25 rowErr Tryd.underlying119 Tryd.underlying137 rfl rfl Tryd.underlying9 cellsE cellsS
  have h1 := laidMet.tail h0
  have g1 : Tryd.prog.globalNamed "lodge/api.ErrRange" = some 0 := by kernel_rfl
  obtain ⟨a1, s1, c1, hc1, hs1, hb1⟩ := laid_sentinel2 h1 g1 (by kernel_rfl) Tryd.underlying25 rowErr Tryd.underlying119 Tryd.underlying137 rfl rfl Tryd.underlying9 cellsE cellsS
  have h2 := laidMet.tail h1
  have g2 : Tryd.prog.globalNamed "lodge/api.ErrKind" = some 6 := by kernel_rfl
  obtain ⟨a2, s2, c2, hc2, hs2, hb2⟩ := laid_sentinel2 h2 g2 (by kernel_rfl) Tryd.underlying25 rowErr Tryd.underlying119 Tryd.underlying137 rfl rfl Tryd.underlying9 cellsE cellsS
  have h3 := laidMet.tail h2
  have g3 : Tryd.prog.globalNamed "lodge/api.ErrMany" = some 3 := by kernel_rfl
  obtain ⟨a3, s3, c3, hc3, hs3, hb3⟩ := laid_sentinel2 h3 g3 (by kernel_rfl) Tryd.underlying25 rowErr Tryd.underlying119 Tryd.underlying137 rfl rfl Tryd.underlying9 cellsE cellsS
  have h4 := laidMet.tail h3
  have g4 : Tryd.prog.globalNamed "lodge/api.ErrEnd" = some 2 := by kernel_rfl
  obtain ⟨a4, s4, c4, hc4, hs4, hb4⟩ := laid_sentinel2 h4 g4 (by kernel_rfl) Tryd.underlying25 rowErr Tryd.underlying119 Tryd.underlying137 rfl rfl Tryd.underlying9 cellsE cellsS
  have h5 := laidMet.tail h4
  have g5 : Tryd.prog.globalNamed "lodge/api.ErrRoom" = some 7 := by kernel_rfl
  obtain ⟨a5, s5, c5, hc5, hs5, hb5⟩ := laid_sentinel2 h5 g5 (by kernel_rfl) Tryd.underlying25 rowErr Tryd.underlying119 Tryd.underlying137 rfl rfl Tryd.underlying9 cellsE cellsS
  have h6 := laidMet.tail h5
  have g6 : Tryd.prog.globalNamed "lodge/api.ErrNone" = some 8 := by kernel_rfl
  obtain ⟨a6, s6, c6, hc6, hs6, hb6⟩ := laid_sentinel2 h6 g6 (by kernel_rfl) Tryd.underlying25 rowErr Tryd.underlying119 Tryd.underlying137 rfl rfl Tryd.underlying9 cellsE cellsS
  have h7 := laidMet.tail h6
  have g7 : Tryd.prog.globalNamed "lodge/api.ErrAlias" = some 9 := by kernel_rfl
  obtain ⟨a7, s7, c7, hc7, hs7, hb7⟩ := laid_sentinel2 h7 g7 (by kernel_rfl) Tryd.underlying25 rowErr Tryd.underlying119 Tryd.underlying137 rfl rfl Tryd.underlying9 cellsE cellsS
  have h8 := laidMet.tail h7
  have g8 : Tryd.prog.globalNamed "lodge/api.ErrCost" = some 10 := by kernel_rfl
  obtain ⟨a8, s8, c8, hc8, hs8, hb8⟩ := laid_sentinel2 h8 g8 (by kernel_rfl) Tryd.underlying25 rowErr Tryd.underlying119 Tryd.underlying137 rfl rfl Tryd.underlying9 cellsE cellsS
  have h9 := laidMet.tail h8
  have g9 : Tryd.prog.globalNamed "lodge/api.ErrJump" = some 11 := by kernel_rfl
  obtain ⟨a9, s9, c9, hc9, hs9, hb9⟩ := laid_sentinel2 h9 g9 (by kernel_rfl) Tryd.underlying25 rowErr Tryd.underlying119 Tryd.underlying137 rfl rfl Tryd.underlying9 cellsE cellsS
  have h10 := laidMet.tail h9
  have g10 : Tryd.prog.globalNamed "lodge/api.ErrCycle" = some 12 := by kernel_rfl
  obtain ⟨a10, s10, c10, hc10, hs10, hb10⟩ := laid_sentinel2 h10 g10 (by kernel_rfl) Tryd.underlying25 rowErr Tryd.underlying119 Tryd.underlying137 rfl rfl Tryd.underlying9 cellsE cellsS
  have h11 := laidMet.tail h10
  have g11 : Tryd.prog.globalNamed "lodge/api.ErrFuel" = some 13 := by kernel_rfl
  obtain ⟨a11, s11, c11, hc11, hs11, hb11⟩ := laid_sentinel2 h11 g11 (by kernel_rfl) Tryd.underlying25 rowErr Tryd.underlying119 Tryd.underlying137 rfl rfl Tryd.underlying9 cellsE cellsS
  have h12 := laidMet.tail h11
  have g12 : Tryd.prog.globalNamed "lodge/api.ErrFull" = some 14 := by kernel_rfl
  obtain ⟨a12, s12, c12, hc12, hs12, hb12⟩ := laid_sentinel2 h12 g12 (by kernel_rfl) Tryd.underlying25 rowErr Tryd.underlying119 Tryd.underlying137 rfl rfl Tryd.underlying9 cellsE cellsS
  have h13 := laidMet.tail h12
  have g13 : Tryd.prog.globalNamed "lodge/api.ErrQuota" = some 15 := by kernel_rfl
  obtain ⟨a13, s13, c13, hc13, hs13, hb13⟩ := laid_sentinel2 h13 g13 (by kernel_rfl) Tryd.underlying25 rowErr Tryd.underlying119 Tryd.underlying137 rfl rfl Tryd.underlying9 cellsE cellsS
  have h14 := laidMet.tail h13
  have g14 : Tryd.prog.globalNamed "lodge/api.ErrCap" = some 16 := by kernel_rfl
  obtain ⟨a14, s14, c14, hc14, hs14, hb14⟩ := laid_sentinel2 h14 g14 (by kernel_rfl) Tryd.underlying25 rowErr Tryd.underlying119 Tryd.underlying137 rfl rfl Tryd.underlying9 cellsE cellsS
  have h15 := laidMet.tail h14
  have g15 : Tryd.prog.globalNamed "lodge/api.ErrStale" = some 17 := by kernel_rfl
  obtain ⟨a15, s15, c15, hc15, hs15, hb15⟩ := laid_sentinel2 h15 g15 (by kernel_rfl) Tryd.underlying25 rowErr Tryd.underlying119 Tryd.underlying137 rfl rfl Tryd.underlying9 cellsE cellsS
  have h16 := laidMet.tail h15
  have g16 : Tryd.prog.globalNamed "lodge/api.ErrTag" = some 18 := by kernel_rfl
  obtain ⟨a16, s16, c16, hc16, hs16, hb16⟩ := laid_sentinel2 h16 g16 (by kernel_rfl) Tryd.underlying25 rowErr Tryd.underlying119 Tryd.underlying137 rfl rfl Tryd.underlying9 cellsE cellsS
  have h17 := laidMet.tail h16
  have g17 : Tryd.prog.globalNamed "lodge/api.ErrOld" = some 19 := by kernel_rfl
  obtain ⟨a17, s17, c17, hc17, hs17, hb17⟩ := laid_sentinel2 h17 g17 (by kernel_rfl) Tryd.underlying25 rowErr Tryd.underlying119 Tryd.underlying137 rfl rfl Tryd.underlying9 cellsE cellsS
  have h18 := laidMet.tail h17
  have g18 : Tryd.prog.globalNamed "lodge/api.ErrTenant" = some 20 := by kernel_rfl
  obtain ⟨a18, s18, c18, hc18, hs18, hb18⟩ := laid_sentinel2 h18 g18 (by kernel_rfl) Tryd.underlying25 rowErr Tryd.underlying119 Tryd.underlying137 rfl rfl Tryd.underlying9 cellsE cellsS
  have h19 := laidMet.tail h18
  have g19 : Tryd.prog.globalNamed "lodge/api.ErrWord" = some 21 := by kernel_rfl
  obtain ⟨a19, s19, c19, hc19, hs19, hb19⟩ := laid_sentinel2 h19 g19 (by kernel_rfl) Tryd.underlying25 rowErr Tryd.underlying119 Tryd.underlying137 rfl rfl Tryd.underlying9 cellsE cellsS
  have h20 := laidMet.tail h19
  have g20 : Tryd.prog.globalNamed "lodge/api.ErrNumber" = some 22 := by kernel_rfl
  obtain ⟨a20, s20, c20, hc20, hs20, hb20⟩ := laid_sentinel2 h20 g20 (by kernel_rfl) Tryd.underlying25 rowErr Tryd.underlying119 Tryd.underlying137 rfl rfl Tryd.underlying9 cellsE cellsS
  have h21 := laidMet.tail h20
  refine ⟨fun c => if c = 101 then a0 else if c = 102 then a1 else if c = 103 then a2 else if c = 104 then a3 else if c = 105 then a4 else if c = 106 then a5 else if c = 107 then a6 else if c = 108 then a7 else if c = 109 then a8 else if c = 110 then a9 else if c = 111 then a10 else if c = 112 then a11 else if c = 113 then a12 else if c = 114 then a13 else if c = 115 then a14 else if c = 116 then a15 else if c = 117 then a16 else if c = 118 then a17 else if c = 119 then a18 else if c = 120 then a19 else a20, ?_⟩
  have cases21 : ∀ c : Int, c ∈ codes → c = 101 ∨ c = 102 ∨ c = 103 ∨ c = 104 ∨ c = 105 ∨ c = 106 ∨ c = 107 ∨ c = 108 ∨ c = 109 ∨ c = 110 ∨ c = 111 ∨ c = 112 ∨ c = 113 ∨ c = 114 ∨ c = 115 ∨ c = 116 ∨ c = 117 ∨ c = 118 ∨ c = 119 ∨ c = 120 ∨ c = 121 := fun c hc => by simpa [codes] using hc
  refine ⟨fun c hc => ?_, ?_, fun c hc => ?_⟩
  · rcases cases21 c hc with rfl | rfl | rfl | rfl | rfl | rfl | rfl | rfl | rfl | rfl | rfl | rfl | rfl | rfl | rfl | rfl | rfl | rfl | rfl | rfl | rfl
    · exact c0
    · exact c1
    · exact c2
    · exact c3
    · exact c4
    · exact c5
    · exact c6
    · exact c7
    · exact c8
    · exact c9
    · exact c10
    · exact c11
    · exact c12
    · exact c13
    · exact c14
    · exact c15
    · exact c16
    · exact c17
    · exact c18
    · exact c19
    · exact c20
  · intro c c' hc hc' he
    have ht : ∀ c : Int, c ∈ codes → ∃ s : ByteArray, W.cell? (if c = 101 then a0 else if c = 102 then a1 else if c = 103 then a2 else if c = 104 then a3 else if c = 105 then a4 else if c = 106 then a5 else if c = 107 then a6 else if c = 108 then a7 else if c = 109 then a8 else if c = 110 then a9 else if c = 111 then a10 else if c = 112 then a11 else if c = 113 then a12 else if c = 114 then a13 else if c = 115 then a14 else if c = 116 then a15 else if c = 117 then a16 else if c = 118 then a17 else if c = 119 then a18 else if c = 120 then a19 else a20) = some (.string s) ∧ s.data.toList = txt c := by
      intro c hc
      rcases cases21 c hc with rfl | rfl | rfl | rfl | rfl | rfl | rfl | rfl | rfl | rfl | rfl | rfl | rfl | rfl | rfl | rfl | rfl | rfl | rfl | rfl | rfl
      · exact ⟨_, hc0, hs0⟩
      · exact ⟨_, hc1, hs1⟩
      · exact ⟨_, hc2, hs2⟩
      · exact ⟨_, hc3, hs3⟩
      · exact ⟨_, hc4, hs4⟩
      · exact ⟨_, hc5, hs5⟩
      · exact ⟨_, hc6, hs6⟩
      · exact ⟨_, hc7, hs7⟩
      · exact ⟨_, hc8, hs8⟩
      · exact ⟨_, hc9, hs9⟩
      · exact ⟨_, hc10, hs10⟩
      · exact ⟨_, hc11, hs11⟩
      · exact ⟨_, hc12, hs12⟩
      · exact ⟨_, hc13, hs13⟩
      · exact ⟨_, hc14, hs14⟩
      · exact ⟨_, hc15, hs15⟩
      · exact ⟨_, hc16, hs16⟩
      · exact ⟨_, hc17, hs17⟩
      · exact ⟨_, hc18, hs18⟩
      · exact ⟨_, hc19, hs19⟩
      · exact ⟨_, hc20, hs20⟩
    obtain ⟨s1, e1, e2⟩ := ht c hc
    obtain ⟨s2, e3, e4⟩ := ht c' hc'
    have he : (if c = 101 then a0 else if c = 102 then a1 else if c = 103 then a2 else if c = 104 then a3 else if c = 105 then a4 else if c = 106 then a5 else if c = 107 then a6 else if c = 108 then a7 else if c = 109 then a8 else if c = 110 then a9 else if c = 111 then a10 else if c = 112 then a11 else if c = 113 then a12 else if c = 114 then a13 else if c = 115 then a14 else if c = 116 then a15 else if c = 117 then a16 else if c = 118 then a17 else if c = 119 then a18 else if c = 120 then a19 else a20) = if c' = 101 then a0 else if c' = 102 then a1 else if c' = 103 then a2 else if c' = 104 then a3 else if c' = 105 then a4 else if c' = 106 then a5 else if c' = 107 then a6 else if c' = 108 then a7 else if c' = 109 then a8 else if c' = 110 then a9 else if c' = 111 then a10 else if c' = 112 then a11 else if c' = 113 then a12 else if c' = 114 then a13 else if c' = 115 then a14 else if c' = 116 then a15 else if c' = 117 then a16 else if c' = 118 then a17 else if c' = 119 then a18 else if c' = 120 then a19 else a20 := he
    rw [he] at e1
    have : s1 = s2 := by
      have := e1.symm.trans e3
      injection this with this
      injection this
    subst this
    exact txt_inj c hc c' hc' (e2.symm.trans e4)
  · rcases cases21 c hc with rfl | rfl | rfl | rfl | rfl | rfl | rfl | rfl | rfl | rfl | rfl | rfl | rfl | rfl | rfl | rfl | rfl | rfl | rfl | rfl | rfl
    · exact hb0
    · exact hb1
    · exact hb2
    · exact hb3
    · exact hb4
    · exact hb5
    · exact hb6
    · exact hb7
    · exact hb8
    · exact hb9
    · exact hb10
    · exact hb11
    · exact hb12
    · exact hb13
    · exact hb14
    · exact hb15
    · exact hb16
    · exact hb17
    · exact hb18
    · exact hb19
    · exact hb20
theorem door_met (os : Os) (args : Array Value) : laidMetH Tryd.prog Rows.quantFitsRow.laid ((World.doorLaid Tryd.prog 4000 os).forCall (fun _ _ => 0) ⟨#[], args, []⟩).memory :=
  laidMetH_of_parts3 (fuel := 8) (laidMet_of_run' 8 (by kernel_rfl) (by kernel_rfl)) (by kernel_rfl) (by kernel_rfl)
set_option maxRecDepth 100000 in
theorem lifted (os : Os) (started : os.Started) (H : Type) (enc : TypeId × Value → H) :
    ReturnsInHanded {} Tryd.checked os 18 .any (fun w args => (Rows.quantFitsSpec.pre enc Tryd.prog Tryd.f18 [] false w args ∧ laidMetH Tryd.prog Rows.quantFitsRow.laid w) ∧ sizedMet enc Tryd.prog Tryd.f18 (OpenSpec.ofChange Rows.quantFitsSpec) false w args)
      (Rows.quantFitsSpec.post enc Tryd.prog Tryd.f18 false true false false) := by
  refine returnsInHanded_of_change_and (C := Tryd.checked) (X := fun w _ => laidMetH Tryd.prog Rows.quantFitsRow.laid w) (fun _ _ _ hh h => h.of_heap hh) own started (by kernel_rfl) Tryd.func18
    (ChangeSpec.witness_shaped (enc := enc) (C := Tryd.checked) (os := os) (X := fun w _ => laidMetH Tryd.prog Rows.quantFitsRow.laid w) false (World.doorLaid Tryd.prog 4000 os) #[.slice none 0 0, .slice none 0 0] 8 rfl (World.shaped_of_RefB (by kernel_rfl) (by kernel_rfl)) (by kernel_rfl) (by kernel_rfl) (by kernel_rfl) (door_met os _)) ?_
  intro W base args ds gs before hval0 hW _ _ hL hsz
  have hval : ∀ (j : Nat) t v, Tryd.f18.params[j]? = some t → args[j]? = some v → Value.okWide Tryd.prog W .any base t v := hval0
  have hW' := hW
  obtain ⟨p, q, hA0, hV, rfl, hfz, hnd⟩ := hW
  have hA : DataW.TrodAll enc Tryd.prog W 0 (fun _ => true) true Tryd.f18.params.toList args.toList ds p := hA0
  rw [Tryd.params18] at hA hval
  obtain ⟨v0, vs0, d0, ds0, p0, q0, hargs, rfl, rfl, h0, r0⟩ := trodAll_cons hA
  obtain ⟨v1, vs1, d1, ds1, p1, q1, rfl, rfl, rfl, h1, r1⟩ := trodAll_cons r0
  obtain ⟨rfl, rfl, rfl⟩ := trodAll_nil r1
  obtain rfl : args = #[v0, v1] := by cases args; simp_all
  obtain ⟨rfl, rfl⟩ := trodVars_none hV
  have k0 := h0
  have lt0 : ∀ x ∈ p0, x.block < W.heap.size := by obtain ⟨m, hm⟩ := k0; exact DataW.trod_lt m _ _ _ hm
  obtain ⟨A0, c0, l0, rfl, i0, e0, m0, w0⟩ := open_floats Tryd.underlying48 Tryd.underlying22 (by kernel_rfl) (hval 0 48 v0 rfl rfl) h0
  have k1 := h1
  have lt1 : ∀ x ∈ p1, x.block < W.heap.size := by obtain ⟨m, hm⟩ := k1; exact DataW.trod_lt m _ _ _ hm
  obtain ⟨A1, c1, l1, rfl, i1, e1, m1, b1⟩ := open_bl Tryd.underlying58 Tryd.underlying5 (by kernel_rfl) (hval 1 58 v1 rfl rfl) h1
  obtain ⟨E, hE⟩ := errs_of_laid hL
  clear hA0 hval0
  refine ((quantFits_any E W hE A0 A1 l0 l1 c0 c1 i0 (fun x h => f64_lt (w0 x h)) i1 (bytes8_wf b1) e1).mono fun _ _ h => (⟨h.1, h.2.below⟩ : _ ∧ _)).mono fun e W' ⟨he, bel⟩ => ?_
  subst he
  exact ⟨_, rfl, _, _, _, [], _, [], hW', trodAll_mk1 (shut_bool Tryd.underlying4 _), (trodAll_cons_mk (Below.trod laidOut (by kernel_rfl) (of_decide_eq_true (by kernel_rfl)) k0 bel lt0) (trodAll_cons_mk (Below.trod laidOut (by kernel_rfl) (of_decide_eq_true (by kernel_rfl)) k1 bel lt1) trodAll_mk0)), rfl, bel.frame _, fun h => by cases h⟩
theorem over : Rows.quantFitsRow.holds Tryd.pinned (OpenSpec.ofChange Rows.quantFitsSpec) :=
  OpenClaim.holds_of_wide 18 Tryd.f18 rfl rfl rfl rfl rfl rfl rfl ⟨rfl, rfl, rfl, rfl, rfl⟩ rfl rfl rfl rfl rfl (by kernel_rfl) Tryd.func18 (by kernel_rfl)
    (of_decide_eq_true (by kernel_rfl)) (by unfold Func.isWrapper; first | (rw [if_pos (by decide +kernel)]; kernel_rfl) | (rw [if_neg (by decide +kernel)]; exact ⟨rfl, rfl⟩))
    (fun os started H enc _ => lifted os started H enc)
theorem said : Rows.QuantFitsSaid := over
theorem plain (f : FuncId) (fn : Func) (hf : Tryd.pinned.checked.prog.funcNamed "lodge/lodgelaw4.QuantFits" = some f) (hfn : Tryd.pinned.checked.prog.funcs[f]? = some fn) :
    true = Tryd.pinned.checked.prog.looks [] ∧ ∀ (j : Nat) t, fn.params[j]? = some t → Tryd.pinned.checked.prog.wantsStandIn t = false := by
  obtain rfl : f = 18 := Option.some.inj ((show Tryd.prog.funcNamed "lodge/lodgelaw4.QuantFits" = some 18 by kernel_rfl).symm.trans hf) |>.symm
  obtain rfl : fn = Tryd.f18 := (Option.some.inj (Tryd.func18.symm.trans hfn)).symm
  refine ⟨by kernel_rfl, fun j t ht => ?_⟩
  rw [Tryd.params18] at ht
  have hm : t ∈ ([48, 58] : List TypeId) := by simpa using Array.mem_of_getElem? ht
  have hall : ([48, 58].all fun u => !Tryd.prog.wantsStandIn u) = true := by kernel_rfl
  exact (show Tryd.prog.wantsStandIn t = false by simpa using List.all_eq_true.1 hall t hm)
theorem card : Rows.QuantFitsCardSaid :=
  Claim7.holds_tied_plain_at .later [] _ _ _ _ said (fun _ h => by cases h) (by kernel_rfl) (fun _ h => by cases h) quantFits_row_tie rfl ⟨rfl, rfl⟩ (by kernel_rfl) rfl plain (by kernel_rfl)
#print axioms card
end Go.Proofs.YtcpfangcibilaaaDoor.quantFits
namespace Go.Proofs.YtcpfangcibilaaaDoor
/-- The statement, under a short name, for the claim. -/
theorem quantFits_holds : Rows.QuantFitsCardSaid := quantFits.card
end Go.Proofs.YtcpfangcibilaaaDoor

