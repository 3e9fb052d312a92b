/-
  DERIVED. GIVEN WITH THE SEED: THE CARDS: each row of YtgifehmpgcenjaaDoorRows.lean that lists a variable, with what it lists TIED to the program's text (the seventh form; the later family's looks); each row that meets fmt, with fmt's text TOLD by the authors' own Lean function (tested against real Go, not proved from fmt's source: count such statements apart). THE CARD IS WHAT COUNTS. Prove the row's statement (the work); the ties are given (YtgifehmpgcenjaaDoorTie.lean); close each card by the builder's one call (the guide's Derived/Test/ToyasCard.lean, 'card_holds'). Laid BY PROGRAM, IN A SANDBOX (cutbox-door.mjs). By AI agents, Wed Nov 11 2026. No macro, syntax, notation, axiom, sorry.
-/
import Derived.Test.YtgifehmpgcenjaaDoorRows
import GoSem.ClaimSeven
namespace Go.Proofs.YtgifehmpgcenjaaDoor
namespace Rows

/-- THE TIED CARD OF 'lodgelaw5.ShapeBounds'. -/
def shapeBoundsCard : Claim7 := { stood := { row := shapeBoundsRow, standIns := [], harness := (true, "6bf62519338dd3266c5fab449a2c5b2ba777f73ac869010d678d43c67bde3dfd"), looks := true }, kinds := [], alts := [], laidByText := true, laidKinds := [.sentinel, .sentinel, .sentinel, .sentinel, .sentinel, .sentinel, .sentinel, .sentinel, .sentinel, .sentinel, .sentinel, .sentinel, .sentinel, .sentinel, .sentinel, .sentinel, .sentinel, .sentinel, .sentinel, .sentinel, .sentinel], laidTests := true, laidLooks := .later }
def ShapeBoundsCardSaid : Prop := Claim7.holds Tryd.pinned (.plain (OpenSpec.ofChange shapeBoundsSpec)) shapeBoundsCard

/-- THE TIED CARD OF 'lodgelaw5.ShapeSteps'. -/
def shapeStepsCard : Claim7 := { stood := { row := shapeStepsRow, standIns := [], harness := (true, "6bf62519338dd3266c5fab449a2c5b2ba777f73ac869010d678d43c67bde3dfd"), looks := true }, kinds := [], alts := [], laidByText := true, laidKinds := [.sentinel, .sentinel], laidTests := true, laidLooks := .later }
def ShapeStepsCardSaid : Prop := Claim7.holds Tryd.pinned (.plain (OpenSpec.ofChange shapeStepsSpec)) shapeStepsCard

/-- THE TIED CARD OF 'lodgelaw5.ShapePlaces'. -/
def shapePlacesCard : Claim7 := { stood := { row := shapePlacesRow, standIns := [], harness := (true, "6bf62519338dd3266c5fab449a2c5b2ba777f73ac869010d678d43c67bde3dfd"), looks := true }, kinds := [], alts := [], laidByText := true, laidKinds := [.sentinel, .sentinel], laidTests := true, laidLooks := .later }
def ShapePlacesCardSaid : Prop := Claim7.holds Tryd.pinned (.plain (OpenSpec.ofChange shapePlacesSpec)) shapePlacesCard

/-- THE TIED CARD OF 'lodgelaw5.ShapeEach'. -/
def shapeEachCard : Claim7 := { stood := { row := shapeEachRow, standIns := [], harness := (true, "6bf62519338dd3266c5fab449a2c5b2ba777f73ac869010d678d43c67bde3dfd"), looks := true }, kinds := [], alts := [], laidByText := true, laidKinds := [.sentinel, .sentinel], laidTests := true, laidLooks := .later }
def ShapeEachCardSaid : Prop := Claim7.holds Tryd.pinned (.plain (OpenSpec.ofChange shapeEachSpec)) shapeEachCard

/-- THE TIED CARD OF 'lodgelaw6.TensRounds'. -/
def tensRoundsCard : Claim7 := { stood := { row := tensRoundsRow, standIns := [], harness := (true, "6bf62519338dd3266c5fab449a2c5b2ba777f73ac869010d678d43c67bde3dfd"), looks := true }, kinds := [], alts := [], laidByText := true, laidKinds := [.sentinel, .sentinel, .sentinel], laidTests := true, laidLooks := .later }
def TensRoundsCardSaid : Prop := Claim7.holds Tryd.pinned (.plain (OpenSpec.ofChange tensRoundsSpec)) tensRoundsCard

/-- THE TIED CARD OF 'lodgelaw10.PoolBetween'. -/
def poolBetweenCard : Claim7 := { stood := { row := poolBetweenRow, standIns := [], harness := (true, "6bf62519338dd3266c5fab449a2c5b2ba777f73ac869010d678d43c67bde3dfd"), looks := true }, kinds := [], alts := [], laidByText := true, laidKinds := [.sentinel, .sentinel, .sentinel], laidTests := true, laidLooks := .later }
def PoolBetweenCardSaid : Prop := Claim7.holds Tryd.pinned (.plain (OpenSpec.ofChange poolBetweenSpec)) poolBetweenCard

/-- THE TIED CARD OF 'lodgelaw10.PoolGreatest'. -/
def poolGreatestCard : Claim7 := { stood := { row := poolGreatestRow, standIns := [], harness := (true, "6bf62519338dd3266c5fab449a2c5b2ba777f73ac869010d678d43c67bde3dfd"), looks := true }, kinds := [], alts := [], laidByText := true, laidKinds := [.sentinel, .sentinel, .sentinel], laidTests := true, laidLooks := .later }
def PoolGreatestCardSaid : Prop := Claim7.holds Tryd.pinned (.plain (OpenSpec.ofChange poolGreatestSpec)) poolGreatestCard

/-- THE TIED CARD OF 'lodgelaw6.TensCopies'. -/
def tensCopiesCard : Claim7 := { stood := { row := tensCopiesRow, standIns := [], harness := (true, "6bf62519338dd3266c5fab449a2c5b2ba777f73ac869010d678d43c67bde3dfd"), looks := true }, kinds := [], alts := [], laidByText := true, laidKinds := [.sentinel, .sentinel, .sentinel], laidTests := true, laidLooks := .later }
def TensCopiesCardSaid : Prop := Claim7.holds Tryd.pinned (.plain (OpenSpec.ofChange tensCopiesSpec)) tensCopiesCard

/-- THE TIED CARD OF 'lodgelaw10.PoolSays'. -/
def poolSaysCard : Claim7 := { stood := { row := poolSaysRow, standIns := [], harness := (true, "6bf62519338dd3266c5fab449a2c5b2ba777f73ac869010d678d43c67bde3dfd"), looks := true }, kinds := [], alts := [], laidByText := true, laidKinds := [.sentinel, .sentinel, .sentinel, .sentinel, .sentinel, .sentinel, .sentinel, .sentinel, .sentinel, .sentinel, .sentinel, .sentinel, .sentinel, .sentinel, .sentinel, .sentinel, .sentinel, .sentinel, .sentinel, .sentinel, .sentinel], laidTests := true, laidLooks := .later }
def PoolSaysCardSaid : Prop := Claim7.holds Tryd.pinned (.plain (OpenSpec.ofChange poolSaysSpec)) poolSaysCard

/-- THE TIED CARD OF 'lodgelaw6.TensRows'. -/
def tensRowsCard : Claim7 := { stood := { row := tensRowsRow, standIns := [], harness := (true, "6bf62519338dd3266c5fab449a2c5b2ba777f73ac869010d678d43c67bde3dfd"), looks := true }, kinds := [], alts := [], laidByText := true, laidKinds := [.sentinel, .sentinel, .sentinel], laidTests := true, laidLooks := .later }
def TensRowsCardSaid : Prop := Claim7.holds Tryd.pinned (.plain (OpenSpec.ofChange tensRowsSpec)) tensRowsCard

/-- THE TIED CARD OF 'lodgelaw6.TensSays'. -/
def tensSaysCard : Claim7 := { stood := { row := tensSaysRow, standIns := [], harness := (true, "6bf62519338dd3266c5fab449a2c5b2ba777f73ac869010d678d43c67bde3dfd"), looks := true }, kinds := [], alts := [], laidByText := true, laidKinds := [.sentinel, .sentinel, .sentinel, .sentinel, .sentinel, .sentinel, .sentinel, .sentinel, .sentinel, .sentinel, .sentinel, .sentinel, .sentinel, .sentinel, .sentinel, .sentinel, .sentinel, .sentinel, .sentinel, .sentinel, .sentinel], laidTests := true, laidLooks := .later }
def TensSaysCardSaid : Prop := Claim7.holds Tryd.pinned (.plain (OpenSpec.ofChange tensSaysSpec)) tensSaysCard

/-- THE TIED CARD OF 'lodgelaw6.TensBytes'. -/
def tensBytesCard : Claim7 := { stood := { row := tensBytesRow, standIns := [], harness := (true, "6bf62519338dd3266c5fab449a2c5b2ba777f73ac869010d678d43c67bde3dfd"), looks := true }, kinds := [], alts := [], laidByText := true, laidKinds := [.sentinel, .sentinel, .sentinel, .sentinel, .sentinel, .sentinel, .sentinel, .sentinel, .sentinel, .sentinel, .sentinel, .sentinel, .sentinel, .sentinel, .sentinel, .sentinel, .sentinel, .sentinel, .sentinel, .sentinel, .sentinel], laidTests := true, laidLooks := .later }
def TensBytesCardSaid : Prop := Claim7.holds Tryd.pinned (.plain (OpenSpec.ofChange tensBytesSpec)) tensBytesCard

/-- THE TIED CARD OF 'lodgelaw6.TensBack'. -/
def tensBackCard : Claim7 := { stood := { row := tensBackRow, standIns := [], harness := (true, "6bf62519338dd3266c5fab449a2c5b2ba777f73ac869010d678d43c67bde3dfd"), looks := true }, kinds := [], alts := [], laidByText := true, laidKinds := [.sentinel, .sentinel, .sentinel, .sentinel, .sentinel, .sentinel, .sentinel, .sentinel, .sentinel, .sentinel, .sentinel, .sentinel, .sentinel, .sentinel, .sentinel, .sentinel, .sentinel, .sentinel, .sentinel, .sentinel, .sentinel], laidTests := true, laidLooks := .later }
def TensBackCardSaid : Prop := Claim7.holds Tryd.pinned (.plain (OpenSpec.ofChange tensBackSpec)) tensBackCard

/-- THE TIED CARD OF 'lodgelaw5.ShapeSays'. -/
def shapeSaysCard : Claim7 := { stood := { row := shapeSaysRow, standIns := [], harness := (true, "6bf62519338dd3266c5fab449a2c5b2ba777f73ac869010d678d43c67bde3dfd"), looks := true }, kinds := [], alts := [], laidByText := true, laidKinds := [.data, .data, .data, .sentinel, .sentinel, .sentinel, .sentinel, .sentinel, .sentinel, .sentinel, .sentinel, .sentinel, .sentinel, .sentinel, .sentinel, .sentinel, .sentinel, .sentinel, .sentinel, .sentinel, .sentinel, .sentinel, .sentinel, .sentinel], laidTests := true, laidLooks := .later }
def ShapeSaysCardSaid : Prop := Claim7.holds Tryd.pinned (.plain (OpenSpec.ofChange shapeSaysSpec)) shapeSaysCard

/-- THE SECOND FORM's CARD OF 'lodgelaw5.ShapeBounds'. -/
def shapeBoundsUptoCard : Claim7 := { stood := { row := shapeBoundsUptoRow, standIns := [], harness := (true, "6bf62519338dd3266c5fab449a2c5b2ba777f73ac869010d678d43c67bde3dfd"), looks := true }, kinds := [], alts := [], laidByText := true, laidKinds := [.sentinel, .sentinel, .sentinel, .sentinel, .sentinel, .sentinel, .sentinel, .sentinel, .sentinel, .sentinel, .sentinel, .sentinel, .sentinel, .sentinel, .sentinel, .sentinel, .sentinel, .sentinel, .sentinel, .sentinel, .sentinel], laidTests := true, laidLooks := .later }
def ShapeBoundsUptoCardSaid : Prop := Claim7.holds Tryd.pinned (.plain (OpenSpec.upto shapeBoundsSpec)) shapeBoundsUptoCard

/-- THE SECOND FORM's CARD OF 'lodgelaw5.ShapeSteps'. -/
def shapeStepsUptoCard : Claim7 := { stood := { row := shapeStepsUptoRow, standIns := [], harness := (true, "6bf62519338dd3266c5fab449a2c5b2ba777f73ac869010d678d43c67bde3dfd"), looks := true }, kinds := [], alts := [], laidByText := true, laidKinds := [.sentinel, .sentinel], laidTests := true, laidLooks := .later }
def ShapeStepsUptoCardSaid : Prop := Claim7.holds Tryd.pinned (.plain (OpenSpec.upto shapeStepsSpec)) shapeStepsUptoCard

/-- THE SECOND FORM's CARD OF 'lodgelaw5.ShapePlaces'. -/
def shapePlacesUptoCard : Claim7 := { stood := { row := shapePlacesUptoRow, standIns := [], harness := (true, "6bf62519338dd3266c5fab449a2c5b2ba777f73ac869010d678d43c67bde3dfd"), looks := true }, kinds := [], alts := [], laidByText := true, laidKinds := [.sentinel, .sentinel], laidTests := true, laidLooks := .later }
def ShapePlacesUptoCardSaid : Prop := Claim7.holds Tryd.pinned (.plain (OpenSpec.upto shapePlacesSpec)) shapePlacesUptoCard

/-- THE SECOND FORM's CARD OF 'lodgelaw5.ShapeEach'. -/
def shapeEachUptoCard : Claim7 := { stood := { row := shapeEachUptoRow, standIns := [], harness := (true, "6bf62519338dd3266c5fab449a2c5b2ba777f73ac869010d678d43c67bde3dfd"), looks := true }, kinds := [], alts := [], laidByText := true, laidKinds := [.sentinel, .sentinel], laidTests := true, laidLooks := .later }
def ShapeEachUptoCardSaid : Prop := Claim7.holds Tryd.pinned (.plain (OpenSpec.upto shapeEachSpec)) shapeEachUptoCard

/-- THE SECOND FORM's CARD OF 'lodgelaw6.TensRounds'. -/
def tensRoundsUptoCard : Claim7 := { stood := { row := tensRoundsUptoRow, standIns := [], harness := (true, "6bf62519338dd3266c5fab449a2c5b2ba777f73ac869010d678d43c67bde3dfd"), looks := true }, kinds := [], alts := [], laidByText := true, laidKinds := [.sentinel, .sentinel, .sentinel], laidTests := true, laidLooks := .later }
def TensRoundsUptoCardSaid : Prop := Claim7.holds Tryd.pinned (.plain (OpenSpec.upto tensRoundsSpec)) tensRoundsUptoCard

/-- THE SECOND FORM's CARD OF 'lodgelaw10.PoolBetween'. -/
def poolBetweenUptoCard : Claim7 := { stood := { row := poolBetweenUptoRow, standIns := [], harness := (true, "6bf62519338dd3266c5fab449a2c5b2ba777f73ac869010d678d43c67bde3dfd"), looks := true }, kinds := [], alts := [], laidByText := true, laidKinds := [.sentinel, .sentinel, .sentinel], laidTests := true, laidLooks := .later }
def PoolBetweenUptoCardSaid : Prop := Claim7.holds Tryd.pinned (.plain (OpenSpec.upto poolBetweenSpec)) poolBetweenUptoCard

/-- THE SECOND FORM's CARD OF 'lodgelaw10.PoolGreatest'. -/
def poolGreatestUptoCard : Claim7 := { stood := { row := poolGreatestUptoRow, standIns := [], harness := (true, "6bf62519338dd3266c5fab449a2c5b2ba777f73ac869010d678d43c67bde3dfd"), looks := true }, kinds := [], alts := [], laidByText := true, laidKinds := [.sentinel, .sentinel, .sentinel], laidTests := true, laidLooks := .later }
def PoolGreatestUptoCardSaid : Prop := Claim7.holds Tryd.pinned (.plain (OpenSpec.upto poolGreatestSpec)) poolGreatestUptoCard

/-- THE SECOND FORM's CARD OF 'lodgelaw6.TensCopies'. -/
def tensCopiesUptoCard : Claim7 := { stood := { row := tensCopiesUptoRow, standIns := [], harness := (true, "6bf62519338dd3266c5fab449a2c5b2ba777f73ac869010d678d43c67bde3dfd"), looks := true }, kinds := [], alts := [], laidByText := true, laidKinds := [.sentinel, .sentinel, .sentinel], laidTests := true, laidLooks := .later }
def TensCopiesUptoCardSaid : Prop := Claim7.holds Tryd.pinned (.plain (OpenSpec.upto tensCopiesSpec)) tensCopiesUptoCard

/-- THE SECOND FORM's CARD OF 'lodgelaw10.PoolSays'. -/
def poolSaysUptoCard : Claim7 := { stood := { row := poolSaysUptoRow, standIns := [], harness := (true, "6bf62519338dd3266c5fab449a2c5b2ba777f73ac869010d678d43c67bde3dfd"), looks := true }, kinds := [], alts := [], laidByText := true, laidKinds := [.sentinel, .sentinel, .sentinel, .sentinel, .sentinel, .sentinel, .sentinel, .sentinel, .sentinel, .sentinel, .sentinel, .sentinel, .sentinel, .sentinel, .sentinel, .sentinel, .sentinel, .sentinel, .sentinel, .sentinel, .sentinel], laidTests := true, laidLooks := .later }
def PoolSaysUptoCardSaid : Prop := Claim7.holds Tryd.pinned (.plain (OpenSpec.upto poolSaysSpec)) poolSaysUptoCard

/-- THE SECOND FORM's CARD OF 'lodgelaw6.TensRows'. -/
def tensRowsUptoCard : Claim7 := { stood := { row := tensRowsUptoRow, standIns := [], harness := (true, "6bf62519338dd3266c5fab449a2c5b2ba777f73ac869010d678d43c67bde3dfd"), looks := true }, kinds := [], alts := [], laidByText := true, laidKinds := [.sentinel, .sentinel, .sentinel], laidTests := true, laidLooks := .later }
def TensRowsUptoCardSaid : Prop := Claim7.holds Tryd.pinned (.plain (OpenSpec.upto tensRowsSpec)) tensRowsUptoCard

/-- THE SECOND FORM's CARD OF 'lodgelaw6.TensSays'. -/
def tensSaysUptoCard : Claim7 := { stood := { row := tensSaysUptoRow, standIns := [], harness := (true, "6bf62519338dd3266c5fab449a2c5b2ba777f73ac869010d678d43c67bde3dfd"), looks := true }, kinds := [], alts := [], laidByText := true, laidKinds := [.sentinel, .sentinel, .sentinel, .sentinel, .sentinel, .sentinel, .sentinel, .sentinel, .sentinel, .sentinel, .sentinel, .sentinel, .sentinel, .sentinel, .sentinel, .sentinel, .sentinel, .sentinel, .sentinel, .sentinel, .sentinel], laidTests := true, laidLooks := .later }
def TensSaysUptoCardSaid : Prop := Claim7.holds Tryd.pinned (.plain (OpenSpec.upto tensSaysSpec)) tensSaysUptoCard

/-- THE SECOND FORM's CARD OF 'lodgelaw6.TensBytes'. -/
def tensBytesUptoCard : Claim7 := { stood := { row := tensBytesUptoRow, standIns := [], harness := (true, "6bf62519338dd3266c5fab449a2c5b2ba777f73ac869010d678d43c67bde3dfd"), looks := true }, kinds := [], alts := [], laidByText := true, laidKinds := [.sentinel, .sentinel, .sentinel, .sentinel, .sentinel, .sentinel, .sentinel, .sentinel, .sentinel, .sentinel, .sentinel, .sentinel, .sentinel, .sentinel, .sentinel, .sentinel, .sentinel, .sentinel, .sentinel, .sentinel, .sentinel], laidTests := true, laidLooks := .later }
def TensBytesUptoCardSaid : Prop := Claim7.holds Tryd.pinned (.plain (OpenSpec.upto tensBytesSpec)) tensBytesUptoCard

/-- THE SECOND FORM's CARD OF 'lodgelaw6.TensBack'. -/
def tensBackUptoCard : Claim7 := { stood := { row := tensBackUptoRow, standIns := [], harness := (true, "6bf62519338dd3266c5fab449a2c5b2ba777f73ac869010d678d43c67bde3dfd"), looks := true }, kinds := [], alts := [], laidByText := true, laidKinds := [.sentinel, .sentinel, .sentinel, .sentinel, .sentinel, .sentinel, .sentinel, .sentinel, .sentinel, .sentinel, .sentinel, .sentinel, .sentinel, .sentinel, .sentinel, .sentinel, .sentinel, .sentinel, .sentinel, .sentinel, .sentinel], laidTests := true, laidLooks := .later }
def TensBackUptoCardSaid : Prop := Claim7.holds Tryd.pinned (.plain (OpenSpec.upto tensBackSpec)) tensBackUptoCard

/-- THE SECOND FORM's CARD OF 'lodgelaw5.ShapeSays'. -/
def shapeSaysUptoCard : Claim7 := { stood := { row := shapeSaysUptoRow, standIns := [], harness := (true, "6bf62519338dd3266c5fab449a2c5b2ba777f73ac869010d678d43c67bde3dfd"), looks := true }, kinds := [], alts := [], laidByText := true, laidKinds := [.data, .data, .data, .sentinel, .sentinel, .sentinel, .sentinel, .sentinel, .sentinel, .sentinel, .sentinel, .sentinel, .sentinel, .sentinel, .sentinel, .sentinel, .sentinel, .sentinel, .sentinel, .sentinel, .sentinel, .sentinel, .sentinel, .sentinel], laidTests := true, laidLooks := .later }
def ShapeSaysUptoCardSaid : Prop := Claim7.holds Tryd.pinned (.plain (OpenSpec.upto shapeSaysSpec)) shapeSaysUptoCard
end Rows
end Go.Proofs.YtgifehmpgcenjaaDoor
