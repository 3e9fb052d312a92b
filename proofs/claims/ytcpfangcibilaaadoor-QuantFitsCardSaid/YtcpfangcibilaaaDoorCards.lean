/-
  DERIVED. GIVEN WITH THE SEED: THE CARDS: each row of YtcpfangcibilaaaDoorRows.lean that lists a variable, with what it lists TIED to the program's text (the seventh form; the later family's looks); each row that meets fmt, with fmt's text TOLD by the authors' own Lean function (tested against real Go, not proved from fmt's source: count such statements apart). THE CARD IS WHAT COUNTS. Prove the row's statement (the work); the ties are given (YtcpfangcibilaaaDoorTie.lean); close each card by the builder's one call (the guide's Derived/Test/ToyasCard.lean, 'card_holds'). Laid BY PROGRAM, IN A SANDBOX (cutbox-door.mjs). By AI agents, Wed Nov 11 2026. No macro, syntax, notation, axiom, sorry.
-/
import Derived.Test.YtcpfangcibilaaaDoorRows
import GoSem.ClaimSeven
namespace Go.Proofs.YtcpfangcibilaaaDoor
namespace Rows

/-- THE TIED CARD OF 'lodgelaw4.QuantFixed'. -/
def quantFixedCard : Claim7 := { stood := { row := quantFixedRow, standIns := [], harness := (true, "d6b7b697ed897e7949af64b51cc0afa651ebcca966382afbee36740f06dfdb0b"), looks := true }, kinds := [], alts := [], laidByText := true, laidKinds := [.sentinel, .sentinel, .sentinel, .sentinel, .sentinel, .sentinel, .sentinel, .sentinel, .sentinel, .sentinel, .sentinel, .sentinel, .sentinel, .sentinel, .sentinel, .sentinel, .sentinel, .sentinel, .sentinel, .sentinel, .sentinel], laidTests := true, laidLooks := .later }
def QuantFixedCardSaid : Prop := Claim7.holds Tryd.pinned (.plain (OpenSpec.ofChange quantFixedSpec)) quantFixedCard

/-- THE TIED CARD OF 'lodgelaw4.QuantShifts'. -/
def quantShiftsCard : Claim7 := { stood := { row := quantShiftsRow, standIns := [], harness := (true, "d6b7b697ed897e7949af64b51cc0afa651ebcca966382afbee36740f06dfdb0b"), looks := true }, kinds := [], alts := [], laidByText := true, laidKinds := [.sentinel], laidTests := true, laidLooks := .later }
def QuantShiftsCardSaid : Prop := Claim7.holds Tryd.pinned (.plain (OpenSpec.ofChange quantShiftsSpec)) quantShiftsCard

/-- THE TIED CARD OF 'lodgelaw4.QuantTells'. -/
def quantTellsCard : Claim7 := { stood := { row := quantTellsRow, standIns := [], harness := (true, "d6b7b697ed897e7949af64b51cc0afa651ebcca966382afbee36740f06dfdb0b"), looks := true }, kinds := [], alts := [], laidByText := true, laidKinds := [.sentinel], laidTests := true, laidLooks := .later }
def QuantTellsCardSaid : Prop := Claim7.holds Tryd.pinned (.plain (OpenSpec.ofChange quantTellsSpec)) quantTellsCard

/-- THE TIED CARD OF 'lodgelaw3.FltHalves'. -/
def fltHalvesCard : Claim7 := { stood := { row := fltHalvesRow, standIns := [], harness := (true, "d6b7b697ed897e7949af64b51cc0afa651ebcca966382afbee36740f06dfdb0b"), looks := true }, kinds := [], alts := [], laidByText := true, laidKinds := [.data], laidTests := true, laidLooks := .later }
def FltHalvesCardSaid : Prop := Claim7.holds Tryd.pinned (.plain (OpenSpec.ofChange fltHalvesSpec)) fltHalvesCard

/-- THE TIED CARD OF 'lodgelaw3.FltRounds'. -/
def fltRoundsCard : Claim7 := { stood := { row := fltRoundsRow, standIns := [], harness := (true, "d6b7b697ed897e7949af64b51cc0afa651ebcca966382afbee36740f06dfdb0b"), looks := true }, kinds := [], alts := [], laidByText := true, laidKinds := [.data], laidTests := true, laidLooks := .later }
def FltRoundsCardSaid : Prop := Claim7.holds Tryd.pinned (.plain (OpenSpec.ofChange fltRoundsSpec)) fltRoundsCard

/-- THE TIED CARD OF 'lodgelaw3.FltKinds'. -/
def fltKindsCard : Claim7 := { stood := { row := fltKindsRow, standIns := [], harness := (true, "d6b7b697ed897e7949af64b51cc0afa651ebcca966382afbee36740f06dfdb0b"), looks := true }, kinds := [], alts := [], laidByText := true, laidKinds := [.data], laidTests := true, laidLooks := .later }
def FltKindsCardSaid : Prop := Claim7.holds Tryd.pinned (.plain (OpenSpec.ofChange fltKindsSpec)) fltKindsCard

/-- THE TIED CARD OF 'lodgelaw3.FltSums'. -/
def fltSumsCard : Claim7 := { stood := { row := fltSumsRow, standIns := [], harness := (true, "d6b7b697ed897e7949af64b51cc0afa651ebcca966382afbee36740f06dfdb0b"), looks := true }, kinds := [], alts := [], laidByText := true, laidKinds := [.data], laidTests := true, laidLooks := .later }
def FltSumsCardSaid : Prop := Claim7.holds Tryd.pinned (.plain (OpenSpec.ofChange fltSumsSpec)) fltSumsCard

/-- THE TIED CARD OF 'lodgelaw4.QuantNears'. -/
def quantNearsCard : Claim7 := { stood := { row := quantNearsRow, standIns := [], harness := (true, "d6b7b697ed897e7949af64b51cc0afa651ebcca966382afbee36740f06dfdb0b"), looks := true }, kinds := [], alts := [], laidByText := true, laidKinds := [.sentinel], laidTests := true, laidLooks := .later }
def QuantNearsCardSaid : Prop := Claim7.holds Tryd.pinned (.plain (OpenSpec.ofChange quantNearsSpec)) quantNearsCard

/-- THE TIED CARD OF 'lodgelaw3.FltBytes'. -/
def fltBytesCard : Claim7 := { stood := { row := fltBytesRow, standIns := [], harness := (true, "d6b7b697ed897e7949af64b51cc0afa651ebcca966382afbee36740f06dfdb0b"), looks := true }, kinds := [], alts := [], laidByText := true, laidKinds := [.data, .sentinel, .sentinel, .sentinel, .sentinel, .sentinel, .sentinel, .sentinel, .sentinel, .sentinel, .sentinel, .sentinel, .sentinel, .sentinel, .sentinel, .sentinel, .sentinel, .sentinel, .sentinel, .sentinel, .sentinel, .sentinel], laidTests := true, laidLooks := .later }
def FltBytesCardSaid : Prop := Claim7.holds Tryd.pinned (.plain (OpenSpec.ofChange fltBytesSpec)) fltBytesCard

/-- THE TIED CARD OF 'lodgelaw4.QuantScales'. -/
def quantScalesCard : Claim7 := { stood := { row := quantScalesRow, standIns := [], harness := (true, "d6b7b697ed897e7949af64b51cc0afa651ebcca966382afbee36740f06dfdb0b"), looks := true }, kinds := [], alts := [], laidByText := true, laidKinds := [.sentinel, .sentinel, .sentinel, .sentinel, .sentinel, .sentinel, .sentinel, .sentinel, .sentinel, .sentinel, .sentinel, .sentinel, .sentinel, .sentinel, .sentinel, .sentinel, .sentinel, .sentinel, .sentinel, .sentinel, .sentinel], laidTests := true, laidLooks := .later }
def QuantScalesCardSaid : Prop := Claim7.holds Tryd.pinned (.plain (OpenSpec.ofChange quantScalesSpec)) quantScalesCard

/-- THE TIED CARD OF 'lodgelaw4.QuantEdges'. -/
def quantEdgesCard : Claim7 := { stood := { row := quantEdgesRow, standIns := [], harness := (true, "d6b7b697ed897e7949af64b51cc0afa651ebcca966382afbee36740f06dfdb0b"), looks := true }, kinds := [], alts := [], laidByText := true, laidKinds := [.sentinel, .sentinel, .sentinel, .sentinel, .sentinel, .sentinel, .sentinel, .sentinel, .sentinel, .sentinel, .sentinel, .sentinel, .sentinel, .sentinel, .sentinel, .sentinel, .sentinel, .sentinel, .sentinel, .sentinel, .sentinel], laidTests := true, laidLooks := .later }
def QuantEdgesCardSaid : Prop := Claim7.holds Tryd.pinned (.plain (OpenSpec.ofChange quantEdgesSpec)) quantEdgesCard

/-- THE TIED CARD OF 'lodgelaw3.FltParts'. -/
def fltPartsCard : Claim7 := { stood := { row := fltPartsRow, standIns := [], harness := (true, "d6b7b697ed897e7949af64b51cc0afa651ebcca966382afbee36740f06dfdb0b"), looks := true }, kinds := [], alts := [], laidByText := true, laidKinds := [.data], laidTests := true, laidLooks := .later }
def FltPartsCardSaid : Prop := Claim7.holds Tryd.pinned (.plain (OpenSpec.ofChange fltPartsSpec)) fltPartsCard

/-- THE TIED CARD OF 'lodgelaw3.FltSmall'. -/
def fltSmallCard : Claim7 := { stood := { row := fltSmallRow, standIns := [], harness := (true, "d6b7b697ed897e7949af64b51cc0afa651ebcca966382afbee36740f06dfdb0b"), looks := true }, kinds := [], alts := [], laidByText := true, laidKinds := [.data], laidTests := true, laidLooks := .later }
def FltSmallCardSaid : Prop := Claim7.holds Tryd.pinned (.plain (OpenSpec.ofChange fltSmallSpec)) fltSmallCard

/-- THE TIED CARD OF 'lodgelaw3.FltGreat'. -/
def fltGreatCard : Claim7 := { stood := { row := fltGreatRow, standIns := [], harness := (true, "d6b7b697ed897e7949af64b51cc0afa651ebcca966382afbee36740f06dfdb0b"), looks := true }, kinds := [], alts := [], laidByText := true, laidKinds := [.data], laidTests := true, laidLooks := .later }
def FltGreatCardSaid : Prop := Claim7.holds Tryd.pinned (.plain (OpenSpec.ofChange fltGreatSpec)) fltGreatCard

/-- THE TIED CARD OF 'lodgelaw3.FltPowers'. -/
def fltPowersCard : Claim7 := { stood := { row := fltPowersRow, standIns := [], harness := (true, "d6b7b697ed897e7949af64b51cc0afa651ebcca966382afbee36740f06dfdb0b"), looks := true }, kinds := [], alts := [], laidByText := true, laidKinds := [.data], laidTests := true, laidLooks := .later }
def FltPowersCardSaid : Prop := Claim7.holds Tryd.pinned (.plain (OpenSpec.ofChange fltPowersSpec)) fltPowersCard

/-- THE TIED CARD OF 'lodgelaw4.QuantFits'. -/
def quantFitsCard : Claim7 := { stood := { row := quantFitsRow, standIns := [], harness := (true, "d6b7b697ed897e7949af64b51cc0afa651ebcca966382afbee36740f06dfdb0b"), looks := true }, kinds := [], alts := [], laidByText := true, laidKinds := [.sentinel, .sentinel, .sentinel, .sentinel, .sentinel, .sentinel, .sentinel, .sentinel, .sentinel, .sentinel, .sentinel, .sentinel, .sentinel, .sentinel, .sentinel, .sentinel, .sentinel, .sentinel, .sentinel, .sentinel, .sentinel], laidTests := true, laidLooks := .later }
def QuantFitsCardSaid : Prop := Claim7.holds Tryd.pinned (.plain (OpenSpec.ofChange quantFitsSpec)) quantFitsCard

/-- THE TIED CARD OF 'lodgelaw4.QuantSpans'. -/
def quantSpansCard : Claim7 := { stood := { row := quantSpansRow, standIns := [], harness := (true, "d6b7b697ed897e7949af64b51cc0afa651ebcca966382afbee36740f06dfdb0b"), looks := true }, kinds := [], alts := [], laidByText := true, laidKinds := [.sentinel, .sentinel, .sentinel, .sentinel, .sentinel, .sentinel, .sentinel, .sentinel, .sentinel, .sentinel, .sentinel, .sentinel, .sentinel, .sentinel, .sentinel, .sentinel, .sentinel, .sentinel, .sentinel, .sentinel, .sentinel], laidTests := true, laidLooks := .later }
def QuantSpansCardSaid : Prop := Claim7.holds Tryd.pinned (.plain (OpenSpec.ofChange quantSpansSpec)) quantSpansCard

/-- THE TIED CARD OF 'lodgelaw3.FltOrder'. -/
def fltOrderCard : Claim7 := { stood := { row := fltOrderRow, standIns := [], harness := (true, "d6b7b697ed897e7949af64b51cc0afa651ebcca966382afbee36740f06dfdb0b"), looks := true }, kinds := [], alts := [], laidByText := true, laidKinds := [.data], laidTests := true, laidLooks := .later }
def FltOrderCardSaid : Prop := Claim7.holds Tryd.pinned (.plain (OpenSpec.ofChange fltOrderSpec)) fltOrderCard

/-- THE TIED CARD OF 'lodgelaw3.FltSorts'. -/
def fltSortsCard : Claim7 := { stood := { row := fltSortsRow, standIns := [], harness := (true, "d6b7b697ed897e7949af64b51cc0afa651ebcca966382afbee36740f06dfdb0b"), looks := true }, kinds := [], alts := [], laidByText := true, laidKinds := [.data], laidTests := true, laidLooks := .later }
def FltSortsCardSaid : Prop := Claim7.holds Tryd.pinned (.plain (OpenSpec.ofChange fltSortsSpec)) fltSortsCard

/-- THE SECOND FORM's CARD OF 'lodgelaw4.QuantFixed'. -/
def quantFixedUptoCard : Claim7 := { stood := { row := quantFixedUptoRow, standIns := [], harness := (true, "d6b7b697ed897e7949af64b51cc0afa651ebcca966382afbee36740f06dfdb0b"), looks := true }, kinds := [], alts := [], laidByText := true, laidKinds := [.sentinel, .sentinel, .sentinel, .sentinel, .sentinel, .sentinel, .sentinel, .sentinel, .sentinel, .sentinel, .sentinel, .sentinel, .sentinel, .sentinel, .sentinel, .sentinel, .sentinel, .sentinel, .sentinel, .sentinel, .sentinel], laidTests := true, laidLooks := .later }
def QuantFixedUptoCardSaid : Prop := Claim7.holds Tryd.pinned (.plain (OpenSpec.upto quantFixedSpec)) quantFixedUptoCard

/-- THE SECOND FORM's CARD OF 'lodgelaw4.QuantShifts'. -/
def quantShiftsUptoCard : Claim7 := { stood := { row := quantShiftsUptoRow, standIns := [], harness := (true, "d6b7b697ed897e7949af64b51cc0afa651ebcca966382afbee36740f06dfdb0b"), looks := true }, kinds := [], alts := [], laidByText := true, laidKinds := [.sentinel], laidTests := true, laidLooks := .later }
def QuantShiftsUptoCardSaid : Prop := Claim7.holds Tryd.pinned (.plain (OpenSpec.upto quantShiftsSpec)) quantShiftsUptoCard

/-- THE SECOND FORM's CARD OF 'lodgelaw4.QuantTells'. -/
def quantTellsUptoCard : Claim7 := { stood := { row := quantTellsUptoRow, standIns := [], harness := (true, "d6b7b697ed897e7949af64b51cc0afa651ebcca966382afbee36740f06dfdb0b"), looks := true }, kinds := [], alts := [], laidByText := true, laidKinds := [.sentinel], laidTests := true, laidLooks := .later }
def QuantTellsUptoCardSaid : Prop := Claim7.holds Tryd.pinned (.plain (OpenSpec.upto quantTellsSpec)) quantTellsUptoCard

/-- THE SECOND FORM's CARD OF 'lodgelaw3.FltHalves'. -/
def fltHalvesUptoCard : Claim7 := { stood := { row := fltHalvesUptoRow, standIns := [], harness := (true, "d6b7b697ed897e7949af64b51cc0afa651ebcca966382afbee36740f06dfdb0b"), looks := true }, kinds := [], alts := [], laidByText := true, laidKinds := [.data], laidTests := true, laidLooks := .later }
def FltHalvesUptoCardSaid : Prop := Claim7.holds Tryd.pinned (.plain (OpenSpec.upto fltHalvesSpec)) fltHalvesUptoCard

/-- THE SECOND FORM's CARD OF 'lodgelaw3.FltRounds'. -/
def fltRoundsUptoCard : Claim7 := { stood := { row := fltRoundsUptoRow, standIns := [], harness := (true, "d6b7b697ed897e7949af64b51cc0afa651ebcca966382afbee36740f06dfdb0b"), looks := true }, kinds := [], alts := [], laidByText := true, laidKinds := [.data], laidTests := true, laidLooks := .later }
def FltRoundsUptoCardSaid : Prop := Claim7.holds Tryd.pinned (.plain (OpenSpec.upto fltRoundsSpec)) fltRoundsUptoCard

/-- THE SECOND FORM's CARD OF 'lodgelaw3.FltKinds'. -/
def fltKindsUptoCard : Claim7 := { stood := { row := fltKindsUptoRow, standIns := [], harness := (true, "d6b7b697ed897e7949af64b51cc0afa651ebcca966382afbee36740f06dfdb0b"), looks := true }, kinds := [], alts := [], laidByText := true, laidKinds := [.data], laidTests := true, laidLooks := .later }
def FltKindsUptoCardSaid : Prop := Claim7.holds Tryd.pinned (.plain (OpenSpec.upto fltKindsSpec)) fltKindsUptoCard

/-- THE SECOND FORM's CARD OF 'lodgelaw3.FltSums'. -/
def fltSumsUptoCard : Claim7 := { stood := { row := fltSumsUptoRow, standIns := [], harness := (true, "d6b7b697ed897e7949af64b51cc0afa651ebcca966382afbee36740f06dfdb0b"), looks := true }, kinds := [], alts := [], laidByText := true, laidKinds := [.data], laidTests := true, laidLooks := .later }
def FltSumsUptoCardSaid : Prop := Claim7.holds Tryd.pinned (.plain (OpenSpec.upto fltSumsSpec)) fltSumsUptoCard

/-- THE SECOND FORM's CARD OF 'lodgelaw4.QuantNears'. -/
def quantNearsUptoCard : Claim7 := { stood := { row := quantNearsUptoRow, standIns := [], harness := (true, "d6b7b697ed897e7949af64b51cc0afa651ebcca966382afbee36740f06dfdb0b"), looks := true }, kinds := [], alts := [], laidByText := true, laidKinds := [.sentinel], laidTests := true, laidLooks := .later }
def QuantNearsUptoCardSaid : Prop := Claim7.holds Tryd.pinned (.plain (OpenSpec.upto quantNearsSpec)) quantNearsUptoCard

/-- THE SECOND FORM's CARD OF 'lodgelaw3.FltBytes'. -/
def fltBytesUptoCard : Claim7 := { stood := { row := fltBytesUptoRow, standIns := [], harness := (true, "d6b7b697ed897e7949af64b51cc0afa651ebcca966382afbee36740f06dfdb0b"), looks := true }, kinds := [], alts := [], laidByText := true, laidKinds := [.data, .sentinel, .sentinel, .sentinel, .sentinel, .sentinel, .sentinel, .sentinel, .sentinel, .sentinel, .sentinel, .sentinel, .sentinel, .sentinel, .sentinel, .sentinel, .sentinel, .sentinel, .sentinel, .sentinel, .sentinel, .sentinel], laidTests := true, laidLooks := .later }
def FltBytesUptoCardSaid : Prop := Claim7.holds Tryd.pinned (.plain (OpenSpec.upto fltBytesSpec)) fltBytesUptoCard

/-- THE SECOND FORM's CARD OF 'lodgelaw4.QuantScales'. -/
def quantScalesUptoCard : Claim7 := { stood := { row := quantScalesUptoRow, standIns := [], harness := (true, "d6b7b697ed897e7949af64b51cc0afa651ebcca966382afbee36740f06dfdb0b"), looks := true }, kinds := [], alts := [], laidByText := true, laidKinds := [.sentinel, .sentinel, .sentinel, .sentinel, .sentinel, .sentinel, .sentinel, .sentinel, .sentinel, .sentinel, .sentinel, .sentinel, .sentinel, .sentinel, .sentinel, .sentinel, .sentinel, .sentinel, .sentinel, .sentinel, .sentinel], laidTests := true, laidLooks := .later }
def QuantScalesUptoCardSaid : Prop := Claim7.holds Tryd.pinned (.plain (OpenSpec.upto quantScalesSpec)) quantScalesUptoCard

/-- THE SECOND FORM's CARD OF 'lodgelaw4.QuantEdges'. -/
def quantEdgesUptoCard : Claim7 := { stood := { row := quantEdgesUptoRow, standIns := [], harness := (true, "d6b7b697ed897e7949af64b51cc0afa651ebcca966382afbee36740f06dfdb0b"), looks := true }, kinds := [], alts := [], laidByText := true, laidKinds := [.sentinel, .sentinel, .sentinel, .sentinel, .sentinel, .sentinel, .sentinel, .sentinel, .sentinel, .sentinel, .sentinel, .sentinel, .sentinel, .sentinel, .sentinel, .sentinel, .sentinel, .sentinel, .sentinel, .sentinel, .sentinel], laidTests := true, laidLooks := .later }
def QuantEdgesUptoCardSaid : Prop := Claim7.holds Tryd.pinned (.plain (OpenSpec.upto quantEdgesSpec)) quantEdgesUptoCard

/-- THE SECOND FORM's CARD OF 'lodgelaw3.FltParts'. -/
def fltPartsUptoCard : Claim7 := { stood := { row := fltPartsUptoRow, standIns := [], harness := (true, "d6b7b697ed897e7949af64b51cc0afa651ebcca966382afbee36740f06dfdb0b"), looks := true }, kinds := [], alts := [], laidByText := true, laidKinds := [.data], laidTests := true, laidLooks := .later }
def FltPartsUptoCardSaid : Prop := Claim7.holds Tryd.pinned (.plain (OpenSpec.upto fltPartsSpec)) fltPartsUptoCard

/-- THE SECOND FORM's CARD OF 'lodgelaw3.FltSmall'. -/
def fltSmallUptoCard : Claim7 := { stood := { row := fltSmallUptoRow, standIns := [], harness := (true, "d6b7b697ed897e7949af64b51cc0afa651ebcca966382afbee36740f06dfdb0b"), looks := true }, kinds := [], alts := [], laidByText := true, laidKinds := [.data], laidTests := true, laidLooks := .later }
def FltSmallUptoCardSaid : Prop := Claim7.holds Tryd.pinned (.plain (OpenSpec.upto fltSmallSpec)) fltSmallUptoCard

/-- THE SECOND FORM's CARD OF 'lodgelaw3.FltGreat'. -/
def fltGreatUptoCard : Claim7 := { stood := { row := fltGreatUptoRow, standIns := [], harness := (true, "d6b7b697ed897e7949af64b51cc0afa651ebcca966382afbee36740f06dfdb0b"), looks := true }, kinds := [], alts := [], laidByText := true, laidKinds := [.data], laidTests := true, laidLooks := .later }
def FltGreatUptoCardSaid : Prop := Claim7.holds Tryd.pinned (.plain (OpenSpec.upto fltGreatSpec)) fltGreatUptoCard

/-- THE SECOND FORM's CARD OF 'lodgelaw3.FltPowers'. -/
def fltPowersUptoCard : Claim7 := { stood := { row := fltPowersUptoRow, standIns := [], harness := (true, "d6b7b697ed897e7949af64b51cc0afa651ebcca966382afbee36740f06dfdb0b"), looks := true }, kinds := [], alts := [], laidByText := true, laidKinds := [.data], laidTests := true, laidLooks := .later }
def FltPowersUptoCardSaid : Prop := Claim7.holds Tryd.pinned (.plain (OpenSpec.upto fltPowersSpec)) fltPowersUptoCard

/-- THE SECOND FORM's CARD OF 'lodgelaw4.QuantFits'. -/
def quantFitsUptoCard : Claim7 := { stood := { row := quantFitsUptoRow, standIns := [], harness := (true, "d6b7b697ed897e7949af64b51cc0afa651ebcca966382afbee36740f06dfdb0b"), looks := true }, kinds := [], alts := [], laidByText := true, laidKinds := [.sentinel, .sentinel, .sentinel, .sentinel, .sentinel, .sentinel, .sentinel, .sentinel, .sentinel, .sentinel, .sentinel, .sentinel, .sentinel, .sentinel, .sentinel, .sentinel, .sentinel, .sentinel, .sentinel, .sentinel, .sentinel], laidTests := true, laidLooks := .later }
def QuantFitsUptoCardSaid : Prop := Claim7.holds Tryd.pinned (.plain (OpenSpec.upto quantFitsSpec)) quantFitsUptoCard

/-- THE SECOND FORM's CARD OF 'lodgelaw4.QuantSpans'. -/
def quantSpansUptoCard : Claim7 := { stood := { row := quantSpansUptoRow, standIns := [], harness := (true, "d6b7b697ed897e7949af64b51cc0afa651ebcca966382afbee36740f06dfdb0b"), looks := true }, kinds := [], alts := [], laidByText := true, laidKinds := [.sentinel, .sentinel, .sentinel, .sentinel, .sentinel, .sentinel, .sentinel, .sentinel, .sentinel, .sentinel, .sentinel, .sentinel, .sentinel, .sentinel, .sentinel, .sentinel, .sentinel, .sentinel, .sentinel, .sentinel, .sentinel], laidTests := true, laidLooks := .later }
def QuantSpansUptoCardSaid : Prop := Claim7.holds Tryd.pinned (.plain (OpenSpec.upto quantSpansSpec)) quantSpansUptoCard

/-- THE SECOND FORM's CARD OF 'lodgelaw3.FltOrder'. -/
def fltOrderUptoCard : Claim7 := { stood := { row := fltOrderUptoRow, standIns := [], harness := (true, "d6b7b697ed897e7949af64b51cc0afa651ebcca966382afbee36740f06dfdb0b"), looks := true }, kinds := [], alts := [], laidByText := true, laidKinds := [.data], laidTests := true, laidLooks := .later }
def FltOrderUptoCardSaid : Prop := Claim7.holds Tryd.pinned (.plain (OpenSpec.upto fltOrderSpec)) fltOrderUptoCard

/-- THE SECOND FORM's CARD OF 'lodgelaw3.FltSorts'. -/
def fltSortsUptoCard : Claim7 := { stood := { row := fltSortsUptoRow, standIns := [], harness := (true, "d6b7b697ed897e7949af64b51cc0afa651ebcca966382afbee36740f06dfdb0b"), looks := true }, kinds := [], alts := [], laidByText := true, laidKinds := [.data], laidTests := true, laidLooks := .later }
def FltSortsUptoCardSaid : Prop := Claim7.holds Tryd.pinned (.plain (OpenSpec.upto fltSortsSpec)) fltSortsUptoCard
end Rows
end Go.Proofs.YtcpfangcibilaaaDoor
