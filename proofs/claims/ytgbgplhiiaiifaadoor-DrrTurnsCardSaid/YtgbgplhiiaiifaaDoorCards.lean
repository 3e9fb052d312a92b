/-
  DERIVED. GIVEN WITH THE SEED: THE CARDS: each row of YtgbgplhiiaiifaaDoorRows.lean that lists a variable, with what it lists TIED to the program's text (the seventh form; the later family's looks); each row that meets fmt, with fmt's text TOLD by the authors' own Lean function (tested against real Go, not proved from fmt's source: count such statements apart). THE CARD IS WHAT COUNTS. Prove the row's statement (the work); the ties are given (YtgbgplhiiaiifaaDoorTie.lean); close each card by the builder's one call (the guide's Derived/Test/ToyasCard.lean, 'card_holds'). Laid BY PROGRAM, IN A SANDBOX (cutbox-door.mjs). By AI agents, Wed Nov 11 2026. No macro, syntax, notation, axiom, sorry.
-/
import Derived.Test.YtgbgplhiiaiifaaDoorRows
import GoSem.ClaimSeven
namespace Go.Proofs.YtgbgplhiiaiifaaDoor
namespace Rows

/-- THE TIED CARD OF 'lodgelaw25.DrrTurns'. -/
def drrTurnsCard : Claim7 := { stood := { row := drrTurnsRow, standIns := [], harness := (true, "605d1759cdc5df9edb7f912dccc529b4ccf77dd080a0c7dfdc5661fb420424e3"), looks := true }, kinds := [], alts := [], laidByText := true, laidKinds := [.sentinel, .sentinel, .sentinel], laidTests := true, laidLooks := .later }
def DrrTurnsCardSaid : Prop := Claim7.holds Tryd.pinned (.plain (OpenSpec.ofChange drrTurnsSpec)) drrTurnsCard

/-- THE TIED CARD OF 'lodgelaw25.DrrFair'. -/
def drrFairCard : Claim7 := { stood := { row := drrFairRow, standIns := [], harness := (true, "605d1759cdc5df9edb7f912dccc529b4ccf77dd080a0c7dfdc5661fb420424e3"), looks := true }, kinds := [], alts := [], laidByText := true, laidKinds := [.sentinel, .sentinel, .sentinel], laidTests := true, laidLooks := .later }
def DrrFairCardSaid : Prop := Claim7.holds Tryd.pinned (.plain (OpenSpec.ofChange drrFairSpec)) drrFairCard

/-- THE TIED CARD OF 'lodgelaw25.DrrSoon'. -/
def drrSoonCard : Claim7 := { stood := { row := drrSoonRow, standIns := [], harness := (true, "605d1759cdc5df9edb7f912dccc529b4ccf77dd080a0c7dfdc5661fb420424e3"), looks := true }, kinds := [], alts := [], laidByText := true, laidKinds := [.sentinel, .sentinel, .sentinel], laidTests := true, laidLooks := .later }
def DrrSoonCardSaid : Prop := Claim7.holds Tryd.pinned (.plain (OpenSpec.ofChange drrSoonSpec)) drrSoonCard

/-- THE TIED CARD OF 'lodgelaw25.DrrKeeps'. -/
def drrKeepsCard : Claim7 := { stood := { row := drrKeepsRow, standIns := [], harness := (true, "605d1759cdc5df9edb7f912dccc529b4ccf77dd080a0c7dfdc5661fb420424e3"), looks := true }, kinds := [], alts := [], laidByText := true, laidKinds := [.sentinel, .sentinel, .sentinel], laidTests := true, laidLooks := .later }
def DrrKeepsCardSaid : Prop := Claim7.holds Tryd.pinned (.plain (OpenSpec.ofChange drrKeepsSpec)) drrKeepsCard

/-- THE TIED CARD OF 'lodgelaw25.DrrLeaves'. -/
def drrLeavesCard : Claim7 := { stood := { row := drrLeavesRow, standIns := [], harness := (true, "605d1759cdc5df9edb7f912dccc529b4ccf77dd080a0c7dfdc5661fb420424e3"), looks := true }, kinds := [], alts := [], laidByText := true, laidKinds := [.sentinel, .sentinel, .sentinel], laidTests := true, laidLooks := .later }
def DrrLeavesCardSaid : Prop := Claim7.holds Tryd.pinned (.plain (OpenSpec.ofChange drrLeavesSpec)) drrLeavesCard

/-- THE TIED CARD OF 'lodgelaw25.DrrPlays'. -/
def drrPlaysCard : Claim7 := { stood := { row := drrPlaysRow, standIns := [], harness := (true, "605d1759cdc5df9edb7f912dccc529b4ccf77dd080a0c7dfdc5661fb420424e3"), looks := true }, kinds := [], alts := [], laidByText := true, laidKinds := [.sentinel, .sentinel, .sentinel, .sentinel, .sentinel, .sentinel, .sentinel, .sentinel, .sentinel, .sentinel, .sentinel, .sentinel, .sentinel, .sentinel, .sentinel, .sentinel, .sentinel, .sentinel, .sentinel, .sentinel, .sentinel], laidTests := true, laidLooks := .later }
def DrrPlaysCardSaid : Prop := Claim7.holds Tryd.pinned (.plain (OpenSpec.ofChange drrPlaysSpec)) drrPlaysCard

/-- THE SECOND FORM's CARD OF 'lodgelaw25.DrrTurns'. -/
def drrTurnsUptoCard : Claim7 := { stood := { row := drrTurnsUptoRow, standIns := [], harness := (true, "605d1759cdc5df9edb7f912dccc529b4ccf77dd080a0c7dfdc5661fb420424e3"), looks := true }, kinds := [], alts := [], laidByText := true, laidKinds := [.sentinel, .sentinel, .sentinel], laidTests := true, laidLooks := .later }
def DrrTurnsUptoCardSaid : Prop := Claim7.holds Tryd.pinned (.plain (OpenSpec.upto drrTurnsSpec)) drrTurnsUptoCard

/-- THE SECOND FORM's CARD OF 'lodgelaw25.DrrFair'. -/
def drrFairUptoCard : Claim7 := { stood := { row := drrFairUptoRow, standIns := [], harness := (true, "605d1759cdc5df9edb7f912dccc529b4ccf77dd080a0c7dfdc5661fb420424e3"), looks := true }, kinds := [], alts := [], laidByText := true, laidKinds := [.sentinel, .sentinel, .sentinel], laidTests := true, laidLooks := .later }
def DrrFairUptoCardSaid : Prop := Claim7.holds Tryd.pinned (.plain (OpenSpec.upto drrFairSpec)) drrFairUptoCard

/-- THE SECOND FORM's CARD OF 'lodgelaw25.DrrSoon'. -/
def drrSoonUptoCard : Claim7 := { stood := { row := drrSoonUptoRow, standIns := [], harness := (true, "605d1759cdc5df9edb7f912dccc529b4ccf77dd080a0c7dfdc5661fb420424e3"), looks := true }, kinds := [], alts := [], laidByText := true, laidKinds := [.sentinel, .sentinel, .sentinel], laidTests := true, laidLooks := .later }
def DrrSoonUptoCardSaid : Prop := Claim7.holds Tryd.pinned (.plain (OpenSpec.upto drrSoonSpec)) drrSoonUptoCard

/-- THE SECOND FORM's CARD OF 'lodgelaw25.DrrKeeps'. -/
def drrKeepsUptoCard : Claim7 := { stood := { row := drrKeepsUptoRow, standIns := [], harness := (true, "605d1759cdc5df9edb7f912dccc529b4ccf77dd080a0c7dfdc5661fb420424e3"), looks := true }, kinds := [], alts := [], laidByText := true, laidKinds := [.sentinel, .sentinel, .sentinel], laidTests := true, laidLooks := .later }
def DrrKeepsUptoCardSaid : Prop := Claim7.holds Tryd.pinned (.plain (OpenSpec.upto drrKeepsSpec)) drrKeepsUptoCard

/-- THE SECOND FORM's CARD OF 'lodgelaw25.DrrLeaves'. -/
def drrLeavesUptoCard : Claim7 := { stood := { row := drrLeavesUptoRow, standIns := [], harness := (true, "605d1759cdc5df9edb7f912dccc529b4ccf77dd080a0c7dfdc5661fb420424e3"), looks := true }, kinds := [], alts := [], laidByText := true, laidKinds := [.sentinel, .sentinel, .sentinel], laidTests := true, laidLooks := .later }
def DrrLeavesUptoCardSaid : Prop := Claim7.holds Tryd.pinned (.plain (OpenSpec.upto drrLeavesSpec)) drrLeavesUptoCard

/-- THE SECOND FORM's CARD OF 'lodgelaw25.DrrPlays'. -/
def drrPlaysUptoCard : Claim7 := { stood := { row := drrPlaysUptoRow, standIns := [], harness := (true, "605d1759cdc5df9edb7f912dccc529b4ccf77dd080a0c7dfdc5661fb420424e3"), looks := true }, kinds := [], alts := [], laidByText := true, laidKinds := [.sentinel, .sentinel, .sentinel, .sentinel, .sentinel, .sentinel, .sentinel, .sentinel, .sentinel, .sentinel, .sentinel, .sentinel, .sentinel, .sentinel, .sentinel, .sentinel, .sentinel, .sentinel, .sentinel, .sentinel, .sentinel], laidTests := true, laidLooks := .later }
def DrrPlaysUptoCardSaid : Prop := Claim7.holds Tryd.pinned (.plain (OpenSpec.upto drrPlaysSpec)) drrPlaysUptoCard
end Rows
end Go.Proofs.YtgbgplhiiaiifaaDoor
