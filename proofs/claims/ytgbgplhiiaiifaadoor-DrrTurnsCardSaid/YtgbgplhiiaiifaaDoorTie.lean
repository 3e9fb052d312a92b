/-
  DERIVED. GIVEN WITH THE SEED: THE PROGRAM's TIES (one call each: nine closed facts by the kernel) AND EACH ROW's TIE, after the 31st guide's Derived/Test/Toyas{Tie, Card}.lean. No idea stands in it: it is a product of the set-up. Laid BY PROGRAM, IN A SANDBOX (cutbox-door.mjs). By AI agents, Wed Nov 11 2026. No macro, syntax, notation, axiom, sorry.
-/
import Derived.Test.YtgbgplhiiaiifaaDoorRows
import Derived.LaidByTextLater
import Derived.SevenTiedAt
import Derived.LaidSub
import Derived.LaidOnce
namespace Go.Proofs.YtgbgplhiiaiifaaDoor
open Go
set_option maxRecDepth 100000
theorem seatTie1 : Tryd.prog.laidByTextLater [("lodge/api.ErrShape", Rows.laid_lodge_api_ErrShape), ("lodge/api.ErrRange", Rows.laid_lodge_api_ErrRange), ("lodge/api.ErrKind", Rows.laid_lodge_api_ErrKind), ("lodge/api.ErrMany", Rows.laid_lodge_api_ErrMany), ("lodge/api.ErrEnd", Rows.laid_lodge_api_ErrEnd), ("lodge/api.ErrRoom", Rows.laid_lodge_api_ErrRoom), ("lodge/api.ErrNone", Rows.laid_lodge_api_ErrNone), ("lodge/api.ErrAlias", Rows.laid_lodge_api_ErrAlias), ("lodge/api.ErrCost", Rows.laid_lodge_api_ErrCost), ("lodge/api.ErrJump", Rows.laid_lodge_api_ErrJump), ("lodge/api.ErrCycle", Rows.laid_lodge_api_ErrCycle), ("lodge/api.ErrFuel", Rows.laid_lodge_api_ErrFuel), ("lodge/api.ErrFull", Rows.laid_lodge_api_ErrFull), ("lodge/api.ErrQuota", Rows.laid_lodge_api_ErrQuota), ("lodge/api.ErrCap", Rows.laid_lodge_api_ErrCap), ("lodge/api.ErrStale", Rows.laid_lodge_api_ErrStale), ("lodge/api.ErrTag", Rows.laid_lodge_api_ErrTag), ("lodge/api.ErrOld", Rows.laid_lodge_api_ErrOld), ("lodge/api.ErrTenant", Rows.laid_lodge_api_ErrTenant), ("lodge/api.ErrWord", Rows.laid_lodge_api_ErrWord), ("lodge/api.ErrNumber", Rows.laid_lodge_api_ErrNumber)] [.sentinel, .sentinel, .sentinel, .sentinel, .sentinel, .sentinel, .sentinel, .sentinel, .sentinel, .sentinel, .sentinel, .sentinel, .sentinel, .sentinel, .sentinel, .sentinel, .sentinel, .sentinel, .sentinel, .sentinel, .sentinel] true :=
  Program.laidByTextLater_by_one 408 8 2 (by kernel_rfl) (by kernel_rfl) (by kernel_rfl) (by kernel_rfl) (by kernel_rfl) (by kernel_rfl) (fun _ _ => by kernel_rfl)
theorem noOwnUnsafe : Tryd.pinned.checked.prog.headLifts.contains "ownunsafe" = false := by kernel_rfl
theorem tie : Tryd.prog.laidByTextLater [("lodge/api.ErrRange", Rows.laid_lodge_api_ErrRange), ("lodge/api.ErrMany", Rows.laid_lodge_api_ErrMany), ("lodge/api.ErrNone", Rows.laid_lodge_api_ErrNone)] [.sentinel, .sentinel, .sentinel] true :=
  Program.laidByTextLater.sub seatTie1 ["lodge/api.ErrRange", "lodge/api.ErrMany", "lodge/api.ErrNone"] (by kernel_rfl) (by kernel_rfl)
theorem drrTurns_row_tie : Rows.drrTurnsRow.laidByTextAt .later Tryd.pinned [.sentinel, .sentinel, .sentinel] true :=
  OpenClaim.laidByTextAt_later rfl rfl tie noOwnUnsafe
theorem drrFair_row_tie : Rows.drrFairRow.laidByTextAt .later Tryd.pinned [.sentinel, .sentinel, .sentinel] true :=
  OpenClaim.laidByTextAt_later rfl rfl tie noOwnUnsafe
theorem drrSoon_row_tie : Rows.drrSoonRow.laidByTextAt .later Tryd.pinned [.sentinel, .sentinel, .sentinel] true :=
  OpenClaim.laidByTextAt_later rfl rfl tie noOwnUnsafe
theorem drrKeeps_row_tie : Rows.drrKeepsRow.laidByTextAt .later Tryd.pinned [.sentinel, .sentinel, .sentinel] true :=
  OpenClaim.laidByTextAt_later rfl rfl tie noOwnUnsafe
theorem drrLeaves_row_tie : Rows.drrLeavesRow.laidByTextAt .later Tryd.pinned [.sentinel, .sentinel, .sentinel] true :=
  OpenClaim.laidByTextAt_later rfl rfl tie noOwnUnsafe
theorem tie2 : Tryd.prog.laidByTextLater [("lodge/api.ErrShape", Rows.laid_lodge_api_ErrShape), ("lodge/api.ErrRange", Rows.laid_lodge_api_ErrRange), ("lodge/api.ErrKind", Rows.laid_lodge_api_ErrKind), ("lodge/api.ErrMany", Rows.laid_lodge_api_ErrMany), ("lodge/api.ErrEnd", Rows.laid_lodge_api_ErrEnd), ("lodge/api.ErrRoom", Rows.laid_lodge_api_ErrRoom), ("lodge/api.ErrNone", Rows.laid_lodge_api_ErrNone), ("lodge/api.ErrAlias", Rows.laid_lodge_api_ErrAlias), ("lodge/api.ErrCost", Rows.laid_lodge_api_ErrCost), ("lodge/api.ErrJump", Rows.laid_lodge_api_ErrJump), ("lodge/api.ErrCycle", Rows.laid_lodge_api_ErrCycle), ("lodge/api.ErrFuel", Rows.laid_lodge_api_ErrFuel), ("lodge/api.ErrFull", Rows.laid_lodge_api_ErrFull), ("lodge/api.ErrQuota", Rows.laid_lodge_api_ErrQuota), ("lodge/api.ErrCap", Rows.laid_lodge_api_ErrCap), ("lodge/api.ErrStale", Rows.laid_lodge_api_ErrStale), ("lodge/api.ErrTag", Rows.laid_lodge_api_ErrTag), ("lodge/api.ErrOld", Rows.laid_lodge_api_ErrOld), ("lodge/api.ErrTenant", Rows.laid_lodge_api_ErrTenant), ("lodge/api.ErrWord", Rows.laid_lodge_api_ErrWord), ("lodge/api.ErrNumber", Rows.laid_lodge_api_ErrNumber)] [.sentinel, .sentinel, .sentinel, .sentinel, .sentinel, .sentinel, .sentinel, .sentinel, .sentinel, .sentinel, .sentinel, .sentinel, .sentinel, .sentinel, .sentinel, .sentinel, .sentinel, .sentinel, .sentinel, .sentinel, .sentinel] true :=
  Program.laidByTextLater.sub seatTie1 ["lodge/api.ErrShape", "lodge/api.ErrRange", "lodge/api.ErrKind", "lodge/api.ErrMany", "lodge/api.ErrEnd", "lodge/api.ErrRoom", "lodge/api.ErrNone", "lodge/api.ErrAlias", "lodge/api.ErrCost", "lodge/api.ErrJump", "lodge/api.ErrCycle", "lodge/api.ErrFuel", "lodge/api.ErrFull", "lodge/api.ErrQuota", "lodge/api.ErrCap", "lodge/api.ErrStale", "lodge/api.ErrTag", "lodge/api.ErrOld", "lodge/api.ErrTenant", "lodge/api.ErrWord", "lodge/api.ErrNumber"] (by kernel_rfl) (by kernel_rfl)
theorem drrPlays_row_tie : Rows.drrPlaysRow.laidByTextAt .later Tryd.pinned [.sentinel, .sentinel, .sentinel, .sentinel, .sentinel, .sentinel, .sentinel, .sentinel, .sentinel, .sentinel, .sentinel, .sentinel, .sentinel, .sentinel, .sentinel, .sentinel, .sentinel, .sentinel, .sentinel, .sentinel, .sentinel] true :=
  OpenClaim.laidByTextAt_later rfl rfl tie2 noOwnUnsafe
theorem drrTurnsUpto_row_tie : Rows.drrTurnsUptoRow.laidByTextAt .later Tryd.pinned [.sentinel, .sentinel, .sentinel] true :=
  OpenClaim.laidByTextAt_later rfl rfl tie noOwnUnsafe
theorem drrFairUpto_row_tie : Rows.drrFairUptoRow.laidByTextAt .later Tryd.pinned [.sentinel, .sentinel, .sentinel] true :=
  OpenClaim.laidByTextAt_later rfl rfl tie noOwnUnsafe
theorem drrSoonUpto_row_tie : Rows.drrSoonUptoRow.laidByTextAt .later Tryd.pinned [.sentinel, .sentinel, .sentinel] true :=
  OpenClaim.laidByTextAt_later rfl rfl tie noOwnUnsafe
theorem drrKeepsUpto_row_tie : Rows.drrKeepsUptoRow.laidByTextAt .later Tryd.pinned [.sentinel, .sentinel, .sentinel] true :=
  OpenClaim.laidByTextAt_later rfl rfl tie noOwnUnsafe
theorem drrLeavesUpto_row_tie : Rows.drrLeavesUptoRow.laidByTextAt .later Tryd.pinned [.sentinel, .sentinel, .sentinel] true :=
  OpenClaim.laidByTextAt_later rfl rfl tie noOwnUnsafe
theorem drrPlaysUpto_row_tie : Rows.drrPlaysUptoRow.laidByTextAt .later Tryd.pinned [.sentinel, .sentinel, .sentinel, .sentinel, .sentinel, .sentinel, .sentinel, .sentinel, .sentinel, .sentinel, .sentinel, .sentinel, .sentinel, .sentinel, .sentinel, .sentinel, .sentinel, .sentinel, .sentinel, .sentinel, .sentinel] true :=
  OpenClaim.laidByTextAt_later rfl rfl tie2 noOwnUnsafe
end Go.Proofs.YtgbgplhiiaiifaaDoor
