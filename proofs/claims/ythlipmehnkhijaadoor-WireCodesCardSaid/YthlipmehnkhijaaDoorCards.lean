/-
  DERIVED. GIVEN WITH THE SEED: THE CARDS: each row of YthlipmehnkhijaaDoorRows.lean that lists a variable, with what it lists TIED to the program's text (the seventh form; the later family's looks); each row that meets fmt, with fmt's text TOLD by the authors' own Lean function (tested against real Go, not proved from fmt's source: count such statements apart). THE CARD IS WHAT COUNTS. Prove the row's statement (the work); the ties are given (YthlipmehnkhijaaDoorTie.lean); close each card by the builder's one call (the guide's Derived/Test/ToyasCard.lean, 'card_holds'). Laid BY PROGRAM, IN A SANDBOX (cutbox-door.mjs). By AI agents, Wed Nov 11 2026. No macro, syntax, notation, axiom, sorry.
-/
import Derived.Test.YthlipmehnkhijaaDoorRows
import GoSem.ClaimSeven
namespace Go.Proofs.YthlipmehnkhijaaDoor
namespace Rows

/-- THE TIED CARD OF 'lodgelaw27.WireBounds'. -/
def wireBoundsCard : Claim7 := { stood := { row := wireBoundsRow, standIns := [], harness := (true, "6d0172b97b9b361704a2c97007e18bca20300243e7655c5d1c15bcae7846366a"), looks := true }, kinds := [], alts := [], laidByText := true, laidKinds := [.sentinel, .sentinel, .sentinel, .sentinel, .sentinel, .sentinel, .sentinel, .sentinel, .sentinel, .sentinel, .sentinel, .sentinel, .sentinel, .sentinel, .sentinel, .sentinel, .sentinel, .sentinel, .sentinel, .sentinel, .sentinel], laidTests := true, laidLooks := .later }
def WireBoundsCardSaid : Prop := Claim7.holds Tryd.pinned (.plain (OpenSpec.ofChange wireBoundsSpec)) wireBoundsCard

/-- THE TIED CARD OF 'lodgelaw27.WireReplies'. -/
def wireRepliesCard : Claim7 := { stood := { row := wireRepliesRow, standIns := [], harness := (true, "6d0172b97b9b361704a2c97007e18bca20300243e7655c5d1c15bcae7846366a"), looks := true }, kinds := [], alts := [], laidByText := true, laidKinds := [.sentinel, .sentinel, .sentinel, .sentinel, .sentinel, .sentinel, .sentinel, .sentinel, .sentinel, .sentinel, .sentinel, .sentinel, .sentinel, .sentinel, .sentinel, .sentinel, .sentinel, .sentinel, .sentinel, .sentinel, .sentinel], laidTests := true, laidLooks := .later }
def WireRepliesCardSaid : Prop := Claim7.holds Tryd.pinned (.plain (OpenSpec.ofChange wireRepliesSpec)) wireRepliesCard

/-- THE TIED CARD OF 'lodgelaw27.WireSays'. -/
def wireSaysCard : Claim7 := { stood := { row := wireSaysRow, standIns := [], harness := (true, "6d0172b97b9b361704a2c97007e18bca20300243e7655c5d1c15bcae7846366a"), looks := true }, kinds := [], alts := [], laidByText := true, laidKinds := [.sentinel, .sentinel, .sentinel, .sentinel, .sentinel, .sentinel, .sentinel, .sentinel, .sentinel, .sentinel, .sentinel, .sentinel, .sentinel, .sentinel, .sentinel, .sentinel, .sentinel, .sentinel, .sentinel, .sentinel, .sentinel], laidTests := true, laidLooks := .later }
def WireSaysCardSaid : Prop := Claim7.holds Tryd.pinned (.plain (OpenSpec.ofChange wireSaysSpec)) wireSaysCard

/-- THE TIED CARD OF 'lodgelaw27.WireTags'. -/
def wireTagsCard : Claim7 := { stood := { row := wireTagsRow, standIns := [], harness := (true, "6d0172b97b9b361704a2c97007e18bca20300243e7655c5d1c15bcae7846366a"), looks := true }, kinds := [], alts := [], laidByText := true, laidKinds := [.sentinel, .sentinel, .sentinel, .sentinel, .sentinel, .sentinel, .sentinel, .sentinel, .sentinel, .sentinel, .sentinel, .sentinel, .sentinel, .sentinel, .sentinel, .sentinel, .sentinel, .sentinel, .sentinel, .sentinel, .sentinel], laidTests := true, laidLooks := .later }
def WireTagsCardSaid : Prop := Claim7.holds Tryd.pinned (.plain (OpenSpec.ofChange wireTagsSpec)) wireTagsCard

/-- THE TIED CARD OF 'lodgelaw27.WireOld'. -/
def wireOldCard : Claim7 := { stood := { row := wireOldRow, standIns := [], harness := (true, "6d0172b97b9b361704a2c97007e18bca20300243e7655c5d1c15bcae7846366a"), looks := true }, kinds := [], alts := [], laidByText := true, laidKinds := [.sentinel, .sentinel, .sentinel, .sentinel, .sentinel, .sentinel, .sentinel, .sentinel, .sentinel, .sentinel, .sentinel, .sentinel, .sentinel, .sentinel, .sentinel, .sentinel, .sentinel, .sentinel, .sentinel, .sentinel, .sentinel], laidTests := true, laidLooks := .later }
def WireOldCardSaid : Prop := Claim7.holds Tryd.pinned (.plain (OpenSpec.ofChange wireOldSpec)) wireOldCard

/-- THE TIED CARD OF 'lodgelaw27.WireCodes'. -/
def wireCodesCard : Claim7 := { stood := { row := wireCodesRow, standIns := [], harness := (true, "6d0172b97b9b361704a2c97007e18bca20300243e7655c5d1c15bcae7846366a"), looks := true }, kinds := [], alts := [], laidByText := true, laidKinds := [.handle, .sentinel, .sentinel, .sentinel, .sentinel, .sentinel, .sentinel, .sentinel, .sentinel, .sentinel, .sentinel, .sentinel, .sentinel, .sentinel, .sentinel, .sentinel, .sentinel, .sentinel, .sentinel, .sentinel, .sentinel, .sentinel], laidTests := true, laidLooks := .later }
def WireCodesCardSaid : Prop := Claim7.holds Tryd.pinned (.plain (OpenSpec.ofChange wireCodesSpec)) wireCodesCard

/-- THE SECOND FORM's CARD OF 'lodgelaw27.WireBounds'. -/
def wireBoundsUptoCard : Claim7 := { stood := { row := wireBoundsUptoRow, standIns := [], harness := (true, "6d0172b97b9b361704a2c97007e18bca20300243e7655c5d1c15bcae7846366a"), looks := true }, kinds := [], alts := [], laidByText := true, laidKinds := [.sentinel, .sentinel, .sentinel, .sentinel, .sentinel, .sentinel, .sentinel, .sentinel, .sentinel, .sentinel, .sentinel, .sentinel, .sentinel, .sentinel, .sentinel, .sentinel, .sentinel, .sentinel, .sentinel, .sentinel, .sentinel], laidTests := true, laidLooks := .later }
def WireBoundsUptoCardSaid : Prop := Claim7.holds Tryd.pinned (.plain (OpenSpec.upto wireBoundsSpec)) wireBoundsUptoCard

/-- THE SECOND FORM's CARD OF 'lodgelaw27.WireReplies'. -/
def wireRepliesUptoCard : Claim7 := { stood := { row := wireRepliesUptoRow, standIns := [], harness := (true, "6d0172b97b9b361704a2c97007e18bca20300243e7655c5d1c15bcae7846366a"), looks := true }, kinds := [], alts := [], laidByText := true, laidKinds := [.sentinel, .sentinel, .sentinel, .sentinel, .sentinel, .sentinel, .sentinel, .sentinel, .sentinel, .sentinel, .sentinel, .sentinel, .sentinel, .sentinel, .sentinel, .sentinel, .sentinel, .sentinel, .sentinel, .sentinel, .sentinel], laidTests := true, laidLooks := .later }
def WireRepliesUptoCardSaid : Prop := Claim7.holds Tryd.pinned (.plain (OpenSpec.upto wireRepliesSpec)) wireRepliesUptoCard

/-- THE SECOND FORM's CARD OF 'lodgelaw27.WireSays'. -/
def wireSaysUptoCard : Claim7 := { stood := { row := wireSaysUptoRow, standIns := [], harness := (true, "6d0172b97b9b361704a2c97007e18bca20300243e7655c5d1c15bcae7846366a"), looks := true }, kinds := [], alts := [], laidByText := true, laidKinds := [.sentinel, .sentinel, .sentinel, .sentinel, .sentinel, .sentinel, .sentinel, .sentinel, .sentinel, .sentinel, .sentinel, .sentinel, .sentinel, .sentinel, .sentinel, .sentinel, .sentinel, .sentinel, .sentinel, .sentinel, .sentinel], laidTests := true, laidLooks := .later }
def WireSaysUptoCardSaid : Prop := Claim7.holds Tryd.pinned (.plain (OpenSpec.upto wireSaysSpec)) wireSaysUptoCard

/-- THE SECOND FORM's CARD OF 'lodgelaw27.WireTags'. -/
def wireTagsUptoCard : Claim7 := { stood := { row := wireTagsUptoRow, standIns := [], harness := (true, "6d0172b97b9b361704a2c97007e18bca20300243e7655c5d1c15bcae7846366a"), looks := true }, kinds := [], alts := [], laidByText := true, laidKinds := [.sentinel, .sentinel, .sentinel, .sentinel, .sentinel, .sentinel, .sentinel, .sentinel, .sentinel, .sentinel, .sentinel, .sentinel, .sentinel, .sentinel, .sentinel, .sentinel, .sentinel, .sentinel, .sentinel, .sentinel, .sentinel], laidTests := true, laidLooks := .later }
def WireTagsUptoCardSaid : Prop := Claim7.holds Tryd.pinned (.plain (OpenSpec.upto wireTagsSpec)) wireTagsUptoCard

/-- THE SECOND FORM's CARD OF 'lodgelaw27.WireOld'. -/
def wireOldUptoCard : Claim7 := { stood := { row := wireOldUptoRow, standIns := [], harness := (true, "6d0172b97b9b361704a2c97007e18bca20300243e7655c5d1c15bcae7846366a"), looks := true }, kinds := [], alts := [], laidByText := true, laidKinds := [.sentinel, .sentinel, .sentinel, .sentinel, .sentinel, .sentinel, .sentinel, .sentinel, .sentinel, .sentinel, .sentinel, .sentinel, .sentinel, .sentinel, .sentinel, .sentinel, .sentinel, .sentinel, .sentinel, .sentinel, .sentinel], laidTests := true, laidLooks := .later }
def WireOldUptoCardSaid : Prop := Claim7.holds Tryd.pinned (.plain (OpenSpec.upto wireOldSpec)) wireOldUptoCard

/-- THE SECOND FORM's CARD OF 'lodgelaw27.WireCodes'. -/
def wireCodesUptoCard : Claim7 := { stood := { row := wireCodesUptoRow, standIns := [], harness := (true, "6d0172b97b9b361704a2c97007e18bca20300243e7655c5d1c15bcae7846366a"), looks := true }, kinds := [], alts := [], laidByText := true, laidKinds := [.handle, .sentinel, .sentinel, .sentinel, .sentinel, .sentinel, .sentinel, .sentinel, .sentinel, .sentinel, .sentinel, .sentinel, .sentinel, .sentinel, .sentinel, .sentinel, .sentinel, .sentinel, .sentinel, .sentinel, .sentinel, .sentinel], laidTests := true, laidLooks := .later }
def WireCodesUptoCardSaid : Prop := Claim7.holds Tryd.pinned (.plain (OpenSpec.upto wireCodesSpec)) wireCodesUptoCard
end Rows
end Go.Proofs.YthlipmehnkhijaaDoor
