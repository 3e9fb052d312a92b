/-
  DERIVED. GIVEN WITH THE SEED: THE PROGRAM's TIES (one call each: nine closed facts by the kernel) AND EACH ROW's TIE, after the 31st guide's Derived/Test/Toyas{Tie, Card}.lean. No idea stands in it: it is a product of the set-up. Laid BY PROGRAM, IN A SANDBOX (cutbox-door.mjs). By AI agents, Wed Nov 11 2026. No macro, syntax, notation, axiom, sorry.
-/
import Derived.Test.YtcpfangcibilaaaDoorRows
import Derived.LaidByTextLater
import Derived.SevenTiedAt
import Derived.LaidSub
import Derived.LaidOnce
namespace Go.Proofs.YtcpfangcibilaaaDoor
open Go
set_option maxRecDepth 100000
theorem seatTie1 : Tryd.prog.laidByTextLater [("math/bits.deBruijn64tab", Rows.laid_math_bits_deBruijn64tab), ("lodge/api.ErrShape", Rows.laid_lodge_api_ErrShape), ("lodge/api.ErrRange", Rows.laid_lodge_api_ErrRange), ("lodge/api.ErrKind", Rows.laid_lodge_api_ErrKind), ("lodge/api.ErrMany", Rows.laid_lodge_api_ErrMany), ("lodge/api.ErrEnd", Rows.laid_lodge_api_ErrEnd), ("lodge/api.ErrRoom", Rows.laid_lodge_api_ErrRoom), ("lodge/api.ErrNone", Rows.laid_lodge_api_ErrNone), ("lodge/api.ErrAlias", Rows.laid_lodge_api_ErrAlias), ("lodge/api.ErrCost", Rows.laid_lodge_api_ErrCost), ("lodge/api.ErrJump", Rows.laid_lodge_api_ErrJump), ("lodge/api.ErrCycle", Rows.laid_lodge_api_ErrCycle), ("lodge/api.ErrFuel", Rows.laid_lodge_api_ErrFuel), ("lodge/api.ErrFull", Rows.laid_lodge_api_ErrFull), ("lodge/api.ErrQuota", Rows.laid_lodge_api_ErrQuota), ("lodge/api.ErrCap", Rows.laid_lodge_api_ErrCap), ("lodge/api.ErrStale", Rows.laid_lodge_api_ErrStale), ("lodge/api.ErrTag", Rows.laid_lodge_api_ErrTag), ("lodge/api.ErrOld", Rows.laid_lodge_api_ErrOld), ("lodge/api.ErrTenant", Rows.laid_lodge_api_ErrTenant), ("lodge/api.ErrWord", Rows.laid_lodge_api_ErrWord), ("lodge/api.ErrNumber", Rows.laid_lodge_api_ErrNumber)] [.data, .sentinel, .sentinel, .sentinel, .sentinel, .sentinel, .sentinel, .sentinel, .sentinel, .sentinel, .sentinel, .sentinel, .sentinel, .sentinel, .sentinel, .sentinel, .sentinel, .sentinel, .sentinel, .sentinel, .sentinel, .sentinel] true :=
  Program.laidByTextLater_by_one 413 8 65 (by kernel_rfl) (by kernel_rfl) (by kernel_rfl) (by kernel_rfl) (by kernel_rfl) (by kernel_rfl) (fun _ _ => by kernel_rfl)
theorem noOwnUnsafe : Tryd.pinned.checked.prog.headLifts.contains "ownunsafe" = false := by kernel_rfl
theorem tie : Tryd.prog.laidByTextLater [("lodge/api.ErrShape", Rows.laid_lodge_api_ErrShape), ("lodge/api.ErrRange", Rows.laid_lodge_api_ErrRange), ("lodge/api.ErrKind", Rows.laid_lodge_api_ErrKind), ("lodge/api.ErrMany", Rows.laid_lodge_api_ErrMany), ("lodge/api.ErrEnd", Rows.laid_lodge_api_ErrEnd), ("lodge/api.ErrRoom", Rows.laid_lodge_api_ErrRoom), ("lodge/api.ErrNone", Rows.laid_lodge_api_ErrNone), ("lodge/api.ErrAlias", Rows.laid_lodge_api_ErrAlias), ("lodge/api.ErrCost", Rows.laid_lodge_api_ErrCost), ("lodge/api.ErrJump", Rows.laid_lodge_api_ErrJump), ("lodge/api.ErrCycle", Rows.laid_lodge_api_ErrCycle), ("lodge/api.ErrFuel", Rows.laid_lodge_api_ErrFuel), ("lodge/api.ErrFull", Rows.laid_lodge_api_ErrFull), ("lodge/api.ErrQuota", Rows.laid_lodge_api_ErrQuota), ("lodge/api.ErrCap", Rows.laid_lodge_api_ErrCap), ("lodge/api.ErrStale", Rows.laid_lodge_api_ErrStale), ("lodge/api.ErrTag", Rows.laid_lodge_api_ErrTag), ("lodge/api.ErrOld", Rows.laid_lodge_api_ErrOld), ("lodge/api.ErrTenant", Rows.laid_lodge_api_ErrTenant), ("lodge/api.ErrWord", Rows.laid_lodge_api_ErrWord), ("lodge/api.ErrNumber", Rows.laid_lodge_api_ErrNumber)] [.sentinel, .sentinel, .sentinel, .sentinel, .sentinel, .sentinel, .sentinel, .sentinel, .sentinel, .sentinel, .sentinel, .sentinel, .sentinel, .sentinel, .sentinel, .sentinel, .sentinel, .sentinel, .sentinel, .sentinel, .sentinel] true :=
  Program.laidByTextLater.sub seatTie1 ["lodge/api.ErrShape", "lodge/api.ErrRange", "lodge/api.ErrKind", "lodge/api.ErrMany", "lodge/api.ErrEnd", "lodge/api.ErrRoom", "lodge/api.ErrNone", "lodge/api.ErrAlias", "lodge/api.ErrCost", "lodge/api.ErrJump", "lodge/api.ErrCycle", "lodge/api.ErrFuel", "lodge/api.ErrFull", "lodge/api.ErrQuota", "lodge/api.ErrCap", "lodge/api.ErrStale", "lodge/api.ErrTag", "lodge/api.ErrOld", "lodge/api.ErrTenant", "lodge/api.ErrWord", "lodge/api.ErrNumber"] (by kernel_rfl) (by kernel_rfl)
theorem quantFixed_row_tie : Rows.quantFixedRow.laidByTextAt .later Tryd.pinned [.sentinel, .sentinel, .sentinel, .sentinel, .sentinel, .sentinel, .sentinel, .sentinel, .sentinel, .sentinel, .sentinel, .sentinel, .sentinel, .sentinel, .sentinel, .sentinel, .sentinel, .sentinel, .sentinel, .sentinel, .sentinel] true :=
  OpenClaim.laidByTextAt_later rfl rfl tie noOwnUnsafe
theorem quantScales_row_tie : Rows.quantScalesRow.laidByTextAt .later Tryd.pinned [.sentinel, .sentinel, .sentinel, .sentinel, .sentinel, .sentinel, .sentinel, .sentinel, .sentinel, .sentinel, .sentinel, .sentinel, .sentinel, .sentinel, .sentinel, .sentinel, .sentinel, .sentinel, .sentinel, .sentinel, .sentinel] true :=
  OpenClaim.laidByTextAt_later rfl rfl tie noOwnUnsafe
theorem quantEdges_row_tie : Rows.quantEdgesRow.laidByTextAt .later Tryd.pinned [.sentinel, .sentinel, .sentinel, .sentinel, .sentinel, .sentinel, .sentinel, .sentinel, .sentinel, .sentinel, .sentinel, .sentinel, .sentinel, .sentinel, .sentinel, .sentinel, .sentinel, .sentinel, .sentinel, .sentinel, .sentinel] true :=
  OpenClaim.laidByTextAt_later rfl rfl tie noOwnUnsafe
theorem quantFits_row_tie : Rows.quantFitsRow.laidByTextAt .later Tryd.pinned [.sentinel, .sentinel, .sentinel, .sentinel, .sentinel, .sentinel, .sentinel, .sentinel, .sentinel, .sentinel, .sentinel, .sentinel, .sentinel, .sentinel, .sentinel, .sentinel, .sentinel, .sentinel, .sentinel, .sentinel, .sentinel] true :=
  OpenClaim.laidByTextAt_later rfl rfl tie noOwnUnsafe
theorem quantSpans_row_tie : Rows.quantSpansRow.laidByTextAt .later Tryd.pinned [.sentinel, .sentinel, .sentinel, .sentinel, .sentinel, .sentinel, .sentinel, .sentinel, .sentinel, .sentinel, .sentinel, .sentinel, .sentinel, .sentinel, .sentinel, .sentinel, .sentinel, .sentinel, .sentinel, .sentinel, .sentinel] true :=
  OpenClaim.laidByTextAt_later rfl rfl tie noOwnUnsafe
theorem tie2 : Tryd.prog.laidByTextLater [("lodge/api.ErrRange", Rows.laid_lodge_api_ErrRange)] [.sentinel] true :=
  Program.laidByTextLater.sub seatTie1 ["lodge/api.ErrRange"] (by kernel_rfl) (by kernel_rfl)
theorem quantShifts_row_tie : Rows.quantShiftsRow.laidByTextAt .later Tryd.pinned [.sentinel] true :=
  OpenClaim.laidByTextAt_later rfl rfl tie2 noOwnUnsafe
theorem quantTells_row_tie : Rows.quantTellsRow.laidByTextAt .later Tryd.pinned [.sentinel] true :=
  OpenClaim.laidByTextAt_later rfl rfl tie2 noOwnUnsafe
theorem quantNears_row_tie : Rows.quantNearsRow.laidByTextAt .later Tryd.pinned [.sentinel] true :=
  OpenClaim.laidByTextAt_later rfl rfl tie2 noOwnUnsafe
theorem tie3 : Tryd.prog.laidByTextLater [("math/bits.deBruijn64tab", Rows.laid_math_bits_deBruijn64tab)] [.data] true :=
  Program.laidByTextLater.sub seatTie1 ["math/bits.deBruijn64tab"] (by kernel_rfl) (by kernel_rfl)
theorem fltHalves_row_tie : Rows.fltHalvesRow.laidByTextAt .later Tryd.pinned [.data] true :=
  OpenClaim.laidByTextAt_later rfl rfl tie3 noOwnUnsafe
theorem fltRounds_row_tie : Rows.fltRoundsRow.laidByTextAt .later Tryd.pinned [.data] true :=
  OpenClaim.laidByTextAt_later rfl rfl tie3 noOwnUnsafe
theorem fltKinds_row_tie : Rows.fltKindsRow.laidByTextAt .later Tryd.pinned [.data] true :=
  OpenClaim.laidByTextAt_later rfl rfl tie3 noOwnUnsafe
theorem fltSums_row_tie : Rows.fltSumsRow.laidByTextAt .later Tryd.pinned [.data] true :=
  OpenClaim.laidByTextAt_later rfl rfl tie3 noOwnUnsafe
theorem fltParts_row_tie : Rows.fltPartsRow.laidByTextAt .later Tryd.pinned [.data] true :=
  OpenClaim.laidByTextAt_later rfl rfl tie3 noOwnUnsafe
theorem fltSmall_row_tie : Rows.fltSmallRow.laidByTextAt .later Tryd.pinned [.data] true :=
  OpenClaim.laidByTextAt_later rfl rfl tie3 noOwnUnsafe
theorem fltGreat_row_tie : Rows.fltGreatRow.laidByTextAt .later Tryd.pinned [.data] true :=
  OpenClaim.laidByTextAt_later rfl rfl tie3 noOwnUnsafe
theorem fltPowers_row_tie : Rows.fltPowersRow.laidByTextAt .later Tryd.pinned [.data] true :=
  OpenClaim.laidByTextAt_later rfl rfl tie3 noOwnUnsafe
theorem fltOrder_row_tie : Rows.fltOrderRow.laidByTextAt .later Tryd.pinned [.data] true :=
  OpenClaim.laidByTextAt_later rfl rfl tie3 noOwnUnsafe
theorem fltSorts_row_tie : Rows.fltSortsRow.laidByTextAt .later Tryd.pinned [.data] true :=
  OpenClaim.laidByTextAt_later rfl rfl tie3 noOwnUnsafe
theorem tie4 : Tryd.prog.laidByTextLater [("math/bits.deBruijn64tab", Rows.laid_math_bits_deBruijn64tab), ("lodge/api.ErrShape", Rows.laid_lodge_api_ErrShape), ("lodge/api.ErrRange", Rows.laid_lodge_api_ErrRange), ("lodge/api.ErrKind", Rows.laid_lodge_api_ErrKind), ("lodge/api.ErrMany", Rows.laid_lodge_api_ErrMany), ("lodge/api.ErrEnd", Rows.laid_lodge_api_ErrEnd), ("lodge/api.ErrRoom", Rows.laid_lodge_api_ErrRoom), ("lodge/api.ErrNone", Rows.laid_lodge_api_ErrNone), ("lodge/api.ErrAlias", Rows.laid_lodge_api_ErrAlias), ("lodge/api.ErrCost", Rows.laid_lodge_api_ErrCost), ("lodge/api.ErrJump", Rows.laid_lodge_api_ErrJump), ("lodge/api.ErrCycle", Rows.laid_lodge_api_ErrCycle), ("lodge/api.ErrFuel", Rows.laid_lodge_api_ErrFuel), ("lodge/api.ErrFull", Rows.laid_lodge_api_ErrFull), ("lodge/api.ErrQuota", Rows.laid_lodge_api_ErrQuota), ("lodge/api.ErrCap", Rows.laid_lodge_api_ErrCap), ("lodge/api.ErrStale", Rows.laid_lodge_api_ErrStale), ("lodge/api.ErrTag", Rows.laid_lodge_api_ErrTag), ("lodge/api.ErrOld", Rows.laid_lodge_api_ErrOld), ("lodge/api.ErrTenant", Rows.laid_lodge_api_ErrTenant), ("lodge/api.ErrWord", Rows.laid_lodge_api_ErrWord), ("lodge/api.ErrNumber", Rows.laid_lodge_api_ErrNumber)] [.data, .sentinel, .sentinel, .sentinel, .sentinel, .sentinel, .sentinel, .sentinel, .sentinel, .sentinel, .sentinel, .sentinel, .sentinel, .sentinel, .sentinel, .sentinel, .sentinel, .sentinel, .sentinel, .sentinel, .sentinel, .sentinel] true :=
  Program.laidByTextLater.sub seatTie1 ["math/bits.deBruijn64tab", "lodge/api.ErrShape", "lodge/api.ErrRange", "lodge/api.ErrKind", "lodge/api.ErrMany", "lodge/api.ErrEnd", "lodge/api.ErrRoom", "lodge/api.ErrNone", "lodge/api.ErrAlias", "lodge/api.ErrCost", "lodge/api.ErrJump", "lodge/api.ErrCycle", "lodge/api.ErrFuel", "lodge/api.ErrFull", "lodge/api.ErrQuota", "lodge/api.ErrCap", "lodge/api.ErrStale", "lodge/api.ErrTag", "lodge/api.ErrOld", "lodge/api.ErrTenant", "lodge/api.ErrWord", "lodge/api.ErrNumber"] (by kernel_rfl) (by kernel_rfl)
theorem fltBytes_row_tie : Rows.fltBytesRow.laidByTextAt .later Tryd.pinned [.data, .sentinel, .sentinel, .sentinel, .sentinel, .sentinel, .sentinel, .sentinel, .sentinel, .sentinel, .sentinel, .sentinel, .sentinel, .sentinel, .sentinel, .sentinel, .sentinel, .sentinel, .sentinel, .sentinel, .sentinel, .sentinel] true :=
  OpenClaim.laidByTextAt_later rfl rfl tie4 noOwnUnsafe
theorem quantFixedUpto_row_tie : Rows.quantFixedUptoRow.laidByTextAt .later Tryd.pinned [.sentinel, .sentinel, .sentinel, .sentinel, .sentinel, .sentinel, .sentinel, .sentinel, .sentinel, .sentinel, .sentinel, .sentinel, .sentinel, .sentinel, .sentinel, .sentinel, .sentinel, .sentinel, .sentinel, .sentinel, .sentinel] true :=
  OpenClaim.laidByTextAt_later rfl rfl tie noOwnUnsafe
theorem quantShiftsUpto_row_tie : Rows.quantShiftsUptoRow.laidByTextAt .later Tryd.pinned [.sentinel] true :=
  OpenClaim.laidByTextAt_later rfl rfl tie2 noOwnUnsafe
theorem quantTellsUpto_row_tie : Rows.quantTellsUptoRow.laidByTextAt .later Tryd.pinned [.sentinel] true :=
  OpenClaim.laidByTextAt_later rfl rfl tie2 noOwnUnsafe
theorem fltHalvesUpto_row_tie : Rows.fltHalvesUptoRow.laidByTextAt .later Tryd.pinned [.data] true :=
  OpenClaim.laidByTextAt_later rfl rfl tie3 noOwnUnsafe
theorem fltRoundsUpto_row_tie : Rows.fltRoundsUptoRow.laidByTextAt .later Tryd.pinned [.data] true :=
  OpenClaim.laidByTextAt_later rfl rfl tie3 noOwnUnsafe
theorem fltKindsUpto_row_tie : Rows.fltKindsUptoRow.laidByTextAt .later Tryd.pinned [.data] true :=
  OpenClaim.laidByTextAt_later rfl rfl tie3 noOwnUnsafe
theorem fltSumsUpto_row_tie : Rows.fltSumsUptoRow.laidByTextAt .later Tryd.pinned [.data] true :=
  OpenClaim.laidByTextAt_later rfl rfl tie3 noOwnUnsafe
theorem quantNearsUpto_row_tie : Rows.quantNearsUptoRow.laidByTextAt .later Tryd.pinned [.sentinel] true :=
  OpenClaim.laidByTextAt_later rfl rfl tie2 noOwnUnsafe
theorem fltBytesUpto_row_tie : Rows.fltBytesUptoRow.laidByTextAt .later Tryd.pinned [.data, .sentinel, .sentinel, .sentinel, .sentinel, .sentinel, .sentinel, .sentinel, .sentinel, .sentinel, .sentinel, .sentinel, .sentinel, .sentinel, .sentinel, .sentinel, .sentinel, .sentinel, .sentinel, .sentinel, .sentinel, .sentinel] true :=
  OpenClaim.laidByTextAt_later rfl rfl tie4 noOwnUnsafe
theorem quantScalesUpto_row_tie : Rows.quantScalesUptoRow.laidByTextAt .later Tryd.pinned [.sentinel, .sentinel, .sentinel, .sentinel, .sentinel, .sentinel, .sentinel, .sentinel, .sentinel, .sentinel, .sentinel, .sentinel, .sentinel, .sentinel, .sentinel, .sentinel, .sentinel, .sentinel, .sentinel, .sentinel, .sentinel] true :=
  OpenClaim.laidByTextAt_later rfl rfl tie noOwnUnsafe
theorem quantEdgesUpto_row_tie : Rows.quantEdgesUptoRow.laidByTextAt .later Tryd.pinned [.sentinel, .sentinel, .sentinel, .sentinel, .sentinel, .sentinel, .sentinel, .sentinel, .sentinel, .sentinel, .sentinel, .sentinel, .sentinel, .sentinel, .sentinel, .sentinel, .sentinel, .sentinel, .sentinel, .sentinel, .sentinel] true :=
  OpenClaim.laidByTextAt_later rfl rfl tie noOwnUnsafe
theorem fltPartsUpto_row_tie : Rows.fltPartsUptoRow.laidByTextAt .later Tryd.pinned [.data] true :=
  OpenClaim.laidByTextAt_later rfl rfl tie3 noOwnUnsafe
theorem fltSmallUpto_row_tie : Rows.fltSmallUptoRow.laidByTextAt .later Tryd.pinned [.data] true :=
  OpenClaim.laidByTextAt_later rfl rfl tie3 noOwnUnsafe
theorem fltGreatUpto_row_tie : Rows.fltGreatUptoRow.laidByTextAt .later Tryd.pinned [.data] true :=
  OpenClaim.laidByTextAt_later rfl rfl tie3 noOwnUnsafe
theorem fltPowersUpto_row_tie : Rows.fltPowersUptoRow.laidByTextAt .later Tryd.pinned [.data] true :=
  OpenClaim.laidByTextAt_later rfl rfl tie3 noOwnUnsafe
theorem quantFitsUpto_row_tie : Rows.quantFitsUptoRow.laidByTextAt .later Tryd.pinned [.sentinel, .sentinel, .sentinel, .sentinel, .sentinel, .sentinel, .sentinel, .sentinel, .sentinel, .sentinel, .sentinel, .sentinel, .sentinel, .sentinel, .sentinel, .sentinel, .sentinel, .sentinel, .sentinel, .sentinel, .sentinel] true :=
  OpenClaim.laidByTextAt_later rfl rfl tie noOwnUnsafe
theorem quantSpansUpto_row_tie : Rows.quantSpansUptoRow.laidByTextAt .later Tryd.pinned [.sentinel, .sentinel, .sentinel, .sentinel, .sentinel, .sentinel, .sentinel, .sentinel, .sentinel, .sentinel, .sentinel, .sentinel, .sentinel, .sentinel, .sentinel, .sentinel, .sentinel, .sentinel, .sentinel, .sentinel, .sentinel] true :=
  OpenClaim.laidByTextAt_later rfl rfl tie noOwnUnsafe
theorem fltOrderUpto_row_tie : Rows.fltOrderUptoRow.laidByTextAt .later Tryd.pinned [.data] true :=
  OpenClaim.laidByTextAt_later rfl rfl tie3 noOwnUnsafe
theorem fltSortsUpto_row_tie : Rows.fltSortsUptoRow.laidByTextAt .later Tryd.pinned [.data] true :=
  OpenClaim.laidByTextAt_later rfl rfl tie3 noOwnUnsafe
end Go.Proofs.YtcpfangcibilaaaDoor
