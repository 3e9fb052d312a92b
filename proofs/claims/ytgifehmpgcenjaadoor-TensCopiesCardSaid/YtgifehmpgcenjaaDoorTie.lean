/-
  DERIVED. GIVEN WITH THE SEED: THE PROGRAM's TIES (one call each: nine closed facts by the kernel) AND EACH ROW's TIE, after the 31st guide's Derived/Test/Toyas{Tie, Card}.lean. No idea stands in it: it is a product of the set-up. Laid BY PROGRAM, IN A SANDBOX (cutbox-door.mjs). By AI agents, Wed Nov 11 2026. No macro, syntax, notation, axiom, sorry.
-/
import Derived.Test.YtgifehmpgcenjaaDoorRows
import Derived.LaidByTextLater
import Derived.SevenTiedAt
import Derived.LaidSub
import Derived.LaidOnce
namespace Go.Proofs.YtgifehmpgcenjaaDoor
open Go
set_option maxRecDepth 100000
theorem seatTie1 : Tryd.prog.laidByTextLater [("math/bits.deBruijn32tab", Rows.laid_math_bits_deBruijn32tab), ("math/bits.deBruijn64tab", Rows.laid_math_bits_deBruijn64tab), ("internal/strconv.uint64pow10", Rows.laid_internal_strconv_uint64pow10), ("lodge/api.ErrShape", Rows.laid_lodge_api_ErrShape), ("lodge/api.ErrRange", Rows.laid_lodge_api_ErrRange), ("lodge/api.ErrKind", Rows.laid_lodge_api_ErrKind), ("lodge/api.ErrMany", Rows.laid_lodge_api_ErrMany), ("lodge/api.ErrEnd", Rows.laid_lodge_api_ErrEnd), ("lodge/api.ErrRoom", Rows.laid_lodge_api_ErrRoom), ("lodge/api.ErrNone", Rows.laid_lodge_api_ErrNone), ("lodge/api.ErrAlias", Rows.laid_lodge_api_ErrAlias), ("lodge/api.ErrCost", Rows.laid_lodge_api_ErrCost), ("lodge/api.ErrJump", Rows.laid_lodge_api_ErrJump), ("lodge/api.ErrCycle", Rows.laid_lodge_api_ErrCycle), ("lodge/api.ErrFuel", Rows.laid_lodge_api_ErrFuel), ("lodge/api.ErrFull", Rows.laid_lodge_api_ErrFull), ("lodge/api.ErrQuota", Rows.laid_lodge_api_ErrQuota), ("lodge/api.ErrCap", Rows.laid_lodge_api_ErrCap), ("lodge/api.ErrStale", Rows.laid_lodge_api_ErrStale), ("lodge/api.ErrTag", Rows.laid_lodge_api_ErrTag), ("lodge/api.ErrOld", Rows.laid_lodge_api_ErrOld), ("lodge/api.ErrTenant", Rows.laid_lodge_api_ErrTenant), ("lodge/api.ErrWord", Rows.laid_lodge_api_ErrWord), ("lodge/api.ErrNumber", Rows.laid_lodge_api_ErrNumber)] [.data, .data, .data, .sentinel, .sentinel, .sentinel, .sentinel, .sentinel, .sentinel, .sentinel, .sentinel, .sentinel, .sentinel, .sentinel, .sentinel, .sentinel, .sentinel, .sentinel, .sentinel, .sentinel, .sentinel, .sentinel, .sentinel, .sentinel] true :=
  Program.laidByTextLater_by_one 423 8 65 (by kernel_rfl) (by kernel_rfl) (by kernel_rfl) (by kernel_rfl) (by kernel_rfl) (by kernel_rfl) (fun _ _ => by kernel_rfl)
theorem noOwnUnsafe : Tryd.pinned.checked.prog.headLifts.contains "ownunsafe" = false := by kernel_rfl
theorem tie : Tryd.prog.laidByTextLater [("lodge/api.ErrShape", Rows.laid_lodge_api_ErrShape), ("lodge/api.ErrRange", Rows.laid_lodge_api_ErrRange), ("lodge/api.ErrKind", Rows.laid_lodge_api_ErrKind), ("lodge/api.ErrMany", Rows.laid_lodge_api_ErrMany), ("lodge/api.ErrEnd", Rows.laid_lodge_api_ErrEnd), ("lodge/api.ErrRoom", Rows.laid_lodge_api_ErrRoom), ("lodge/api.ErrNone", Rows.laid_lodge_api_ErrNone), ("lodge/api.ErrAlias", Rows.laid_lodge_api_ErrAlias), ("lodge/api.ErrCost", Rows.laid_lodge_api_ErrCost), ("lodge/api.ErrJump", Rows.laid_lodge_api_ErrJump), ("lodge/api.ErrCycle", Rows.laid_lodge_api_ErrCycle), ("lodge/api.ErrFuel", Rows.laid_lodge_api_ErrFuel), ("lodge/api.ErrFull", Rows.laid_lodge_api_ErrFull), ("lodge/api.ErrQuota", Rows.laid_lodge_api_ErrQuota), ("lodge/api.ErrCap", Rows.laid_lodge_api_ErrCap), ("lodge/api.ErrStale", Rows.laid_lodge_api_ErrStale), ("lodge/api.ErrTag", Rows.laid_lodge_api_ErrTag), ("lodge/api.ErrOld", Rows.laid_lodge_api_ErrOld), ("lodge/api.ErrTenant", Rows.laid_lodge_api_ErrTenant), ("lodge/api.ErrWord", Rows.laid_lodge_api_ErrWord), ("lodge/api.ErrNumber", Rows.laid_lodge_api_ErrNumber)] [.sentinel, .sentinel, .sentinel, .sentinel, .sentinel, .sentinel, .sentinel, .sentinel, .sentinel, .sentinel, .sentinel, .sentinel, .sentinel, .sentinel, .sentinel, .sentinel, .sentinel, .sentinel, .sentinel, .sentinel, .sentinel] true :=
  Program.laidByTextLater.sub seatTie1 ["lodge/api.ErrShape", "lodge/api.ErrRange", "lodge/api.ErrKind", "lodge/api.ErrMany", "lodge/api.ErrEnd", "lodge/api.ErrRoom", "lodge/api.ErrNone", "lodge/api.ErrAlias", "lodge/api.ErrCost", "lodge/api.ErrJump", "lodge/api.ErrCycle", "lodge/api.ErrFuel", "lodge/api.ErrFull", "lodge/api.ErrQuota", "lodge/api.ErrCap", "lodge/api.ErrStale", "lodge/api.ErrTag", "lodge/api.ErrOld", "lodge/api.ErrTenant", "lodge/api.ErrWord", "lodge/api.ErrNumber"] (by kernel_rfl) (by kernel_rfl)
theorem shapeBounds_row_tie : Rows.shapeBoundsRow.laidByTextAt .later Tryd.pinned [.sentinel, .sentinel, .sentinel, .sentinel, .sentinel, .sentinel, .sentinel, .sentinel, .sentinel, .sentinel, .sentinel, .sentinel, .sentinel, .sentinel, .sentinel, .sentinel, .sentinel, .sentinel, .sentinel, .sentinel, .sentinel] true :=
  OpenClaim.laidByTextAt_later rfl rfl tie noOwnUnsafe
theorem poolSays_row_tie : Rows.poolSaysRow.laidByTextAt .later Tryd.pinned [.sentinel, .sentinel, .sentinel, .sentinel, .sentinel, .sentinel, .sentinel, .sentinel, .sentinel, .sentinel, .sentinel, .sentinel, .sentinel, .sentinel, .sentinel, .sentinel, .sentinel, .sentinel, .sentinel, .sentinel, .sentinel] true :=
  OpenClaim.laidByTextAt_later rfl rfl tie noOwnUnsafe
theorem tensSays_row_tie : Rows.tensSaysRow.laidByTextAt .later Tryd.pinned [.sentinel, .sentinel, .sentinel, .sentinel, .sentinel, .sentinel, .sentinel, .sentinel, .sentinel, .sentinel, .sentinel, .sentinel, .sentinel, .sentinel, .sentinel, .sentinel, .sentinel, .sentinel, .sentinel, .sentinel, .sentinel] true :=
  OpenClaim.laidByTextAt_later rfl rfl tie noOwnUnsafe
theorem tensBytes_row_tie : Rows.tensBytesRow.laidByTextAt .later Tryd.pinned [.sentinel, .sentinel, .sentinel, .sentinel, .sentinel, .sentinel, .sentinel, .sentinel, .sentinel, .sentinel, .sentinel, .sentinel, .sentinel, .sentinel, .sentinel, .sentinel, .sentinel, .sentinel, .sentinel, .sentinel, .sentinel] true :=
  OpenClaim.laidByTextAt_later rfl rfl tie noOwnUnsafe
theorem tensBack_row_tie : Rows.tensBackRow.laidByTextAt .later Tryd.pinned [.sentinel, .sentinel, .sentinel, .sentinel, .sentinel, .sentinel, .sentinel, .sentinel, .sentinel, .sentinel, .sentinel, .sentinel, .sentinel, .sentinel, .sentinel, .sentinel, .sentinel, .sentinel, .sentinel, .sentinel, .sentinel] true :=
  OpenClaim.laidByTextAt_later rfl rfl tie noOwnUnsafe
theorem tie2 : Tryd.prog.laidByTextLater [("lodge/api.ErrRange", Rows.laid_lodge_api_ErrRange), ("lodge/api.ErrMany", Rows.laid_lodge_api_ErrMany)] [.sentinel, .sentinel] true :=
  Program.laidByTextLater.sub seatTie1 ["lodge/api.ErrRange", "lodge/api.ErrMany"] (by kernel_rfl) (by kernel_rfl)
theorem shapeSteps_row_tie : Rows.shapeStepsRow.laidByTextAt .later Tryd.pinned [.sentinel, .sentinel] true :=
  OpenClaim.laidByTextAt_later rfl rfl tie2 noOwnUnsafe
theorem shapePlaces_row_tie : Rows.shapePlacesRow.laidByTextAt .later Tryd.pinned [.sentinel, .sentinel] true :=
  OpenClaim.laidByTextAt_later rfl rfl tie2 noOwnUnsafe
theorem shapeEach_row_tie : Rows.shapeEachRow.laidByTextAt .later Tryd.pinned [.sentinel, .sentinel] true :=
  OpenClaim.laidByTextAt_later rfl rfl tie2 noOwnUnsafe
theorem tie3 : Tryd.prog.laidByTextLater [("lodge/api.ErrShape", Rows.laid_lodge_api_ErrShape), ("lodge/api.ErrRange", Rows.laid_lodge_api_ErrRange), ("lodge/api.ErrMany", Rows.laid_lodge_api_ErrMany)] [.sentinel, .sentinel, .sentinel] true :=
  Program.laidByTextLater.sub seatTie1 ["lodge/api.ErrShape", "lodge/api.ErrRange", "lodge/api.ErrMany"] (by kernel_rfl) (by kernel_rfl)
theorem tensRounds_row_tie : Rows.tensRoundsRow.laidByTextAt .later Tryd.pinned [.sentinel, .sentinel, .sentinel] true :=
  OpenClaim.laidByTextAt_later rfl rfl tie3 noOwnUnsafe
theorem poolBetween_row_tie : Rows.poolBetweenRow.laidByTextAt .later Tryd.pinned [.sentinel, .sentinel, .sentinel] true :=
  OpenClaim.laidByTextAt_later rfl rfl tie3 noOwnUnsafe
theorem poolGreatest_row_tie : Rows.poolGreatestRow.laidByTextAt .later Tryd.pinned [.sentinel, .sentinel, .sentinel] true :=
  OpenClaim.laidByTextAt_later rfl rfl tie3 noOwnUnsafe
theorem tensCopies_row_tie : Rows.tensCopiesRow.laidByTextAt .later Tryd.pinned [.sentinel, .sentinel, .sentinel] true :=
  OpenClaim.laidByTextAt_later rfl rfl tie3 noOwnUnsafe
theorem tensRows_row_tie : Rows.tensRowsRow.laidByTextAt .later Tryd.pinned [.sentinel, .sentinel, .sentinel] true :=
  OpenClaim.laidByTextAt_later rfl rfl tie3 noOwnUnsafe
theorem tie4 : Tryd.prog.laidByTextLater [("math/bits.deBruijn32tab", Rows.laid_math_bits_deBruijn32tab), ("math/bits.deBruijn64tab", Rows.laid_math_bits_deBruijn64tab), ("internal/strconv.uint64pow10", Rows.laid_internal_strconv_uint64pow10), ("lodge/api.ErrShape", Rows.laid_lodge_api_ErrShape), ("lodge/api.ErrRange", Rows.laid_lodge_api_ErrRange), ("lodge/api.ErrKind", Rows.laid_lodge_api_ErrKind), ("lodge/api.ErrMany", Rows.laid_lodge_api_ErrMany), ("lodge/api.ErrEnd", Rows.laid_lodge_api_ErrEnd), ("lodge/api.ErrRoom", Rows.laid_lodge_api_ErrRoom), ("lodge/api.ErrNone", Rows.laid_lodge_api_ErrNone), ("lodge/api.ErrAlias", Rows.laid_lodge_api_ErrAlias), ("lodge/api.ErrCost", Rows.laid_lodge_api_ErrCost), ("lodge/api.ErrJump", Rows.laid_lodge_api_ErrJump), ("lodge/api.ErrCycle", Rows.laid_lodge_api_ErrCycle), ("lodge/api.ErrFuel", Rows.laid_lodge_api_ErrFuel), ("lodge/api.ErrFull", Rows.laid_lodge_api_ErrFull), ("lodge/api.ErrQuota", Rows.laid_lodge_api_ErrQuota), ("lodge/api.ErrCap", Rows.laid_lodge_api_ErrCap), ("lodge/api.ErrStale", Rows.laid_lodge_api_ErrStale), ("lodge/api.ErrTag", Rows.laid_lodge_api_ErrTag), ("lodge/api.ErrOld", Rows.laid_lodge_api_ErrOld), ("lodge/api.ErrTenant", Rows.laid_lodge_api_ErrTenant), ("lodge/api.ErrWord", Rows.laid_lodge_api_ErrWord), ("lodge/api.ErrNumber", Rows.laid_lodge_api_ErrNumber)] [.data, .data, .data, .sentinel, .sentinel, .sentinel, .sentinel, .sentinel, .sentinel, .sentinel, .sentinel, .sentinel, .sentinel, .sentinel, .sentinel, .sentinel, .sentinel, .sentinel, .sentinel, .sentinel, .sentinel, .sentinel, .sentinel, .sentinel] true :=
  Program.laidByTextLater.sub seatTie1 ["math/bits.deBruijn32tab", "math/bits.deBruijn64tab", "internal/strconv.uint64pow10", "lodge/api.ErrShape", "lodge/api.ErrRange", "lodge/api.ErrKind", "lodge/api.ErrMany", "lodge/api.ErrEnd", "lodge/api.ErrRoom", "lodge/api.ErrNone", "lodge/api.ErrAlias", "lodge/api.ErrCost", "lodge/api.ErrJump", "lodge/api.ErrCycle", "lodge/api.ErrFuel", "lodge/api.ErrFull", "lodge/api.ErrQuota", "lodge/api.ErrCap", "lodge/api.ErrStale", "lodge/api.ErrTag", "lodge/api.ErrOld", "lodge/api.ErrTenant", "lodge/api.ErrWord", "lodge/api.ErrNumber"] (by kernel_rfl) (by kernel_rfl)
theorem shapeSays_row_tie : Rows.shapeSaysRow.laidByTextAt .later Tryd.pinned [.data, .data, .data, .sentinel, .sentinel, .sentinel, .sentinel, .sentinel, .sentinel, .sentinel, .sentinel, .sentinel, .sentinel, .sentinel, .sentinel, .sentinel, .sentinel, .sentinel, .sentinel, .sentinel, .sentinel, .sentinel, .sentinel, .sentinel] true :=
  OpenClaim.laidByTextAt_later rfl rfl tie4 noOwnUnsafe
theorem shapeBoundsUpto_row_tie : Rows.shapeBoundsUptoRow.laidByTextAt .later Tryd.pinned [.sentinel, .sentinel, .sentinel, .sentinel, .sentinel, .sentinel, .sentinel, .sentinel, .sentinel, .sentinel, .sentinel, .sentinel, .sentinel, .sentinel, .sentinel, .sentinel, .sentinel, .sentinel, .sentinel, .sentinel, .sentinel] true :=
  OpenClaim.laidByTextAt_later rfl rfl tie noOwnUnsafe
theorem shapeStepsUpto_row_tie : Rows.shapeStepsUptoRow.laidByTextAt .later Tryd.pinned [.sentinel, .sentinel] true :=
  OpenClaim.laidByTextAt_later rfl rfl tie2 noOwnUnsafe
theorem shapePlacesUpto_row_tie : Rows.shapePlacesUptoRow.laidByTextAt .later Tryd.pinned [.sentinel, .sentinel] true :=
  OpenClaim.laidByTextAt_later rfl rfl tie2 noOwnUnsafe
theorem shapeEachUpto_row_tie : Rows.shapeEachUptoRow.laidByTextAt .later Tryd.pinned [.sentinel, .sentinel] true :=
  OpenClaim.laidByTextAt_later rfl rfl tie2 noOwnUnsafe
theorem tensRoundsUpto_row_tie : Rows.tensRoundsUptoRow.laidByTextAt .later Tryd.pinned [.sentinel, .sentinel, .sentinel] true :=
  OpenClaim.laidByTextAt_later rfl rfl tie3 noOwnUnsafe
theorem poolBetweenUpto_row_tie : Rows.poolBetweenUptoRow.laidByTextAt .later Tryd.pinned [.sentinel, .sentinel, .sentinel] true :=
  OpenClaim.laidByTextAt_later rfl rfl tie3 noOwnUnsafe
theorem poolGreatestUpto_row_tie : Rows.poolGreatestUptoRow.laidByTextAt .later Tryd.pinned [.sentinel, .sentinel, .sentinel] true :=
  OpenClaim.laidByTextAt_later rfl rfl tie3 noOwnUnsafe
theorem tensCopiesUpto_row_tie : Rows.tensCopiesUptoRow.laidByTextAt .later Tryd.pinned [.sentinel, .sentinel, .sentinel] true :=
  OpenClaim.laidByTextAt_later rfl rfl tie3 noOwnUnsafe
theorem poolSaysUpto_row_tie : Rows.poolSaysUptoRow.laidByTextAt .later Tryd.pinned [.sentinel, .sentinel, .sentinel, .sentinel, .sentinel, .sentinel, .sentinel, .sentinel, .sentinel, .sentinel, .sentinel, .sentinel, .sentinel, .sentinel, .sentinel, .sentinel, .sentinel, .sentinel, .sentinel, .sentinel, .sentinel] true :=
  OpenClaim.laidByTextAt_later rfl rfl tie noOwnUnsafe
theorem tensRowsUpto_row_tie : Rows.tensRowsUptoRow.laidByTextAt .later Tryd.pinned [.sentinel, .sentinel, .sentinel] true :=
  OpenClaim.laidByTextAt_later rfl rfl tie3 noOwnUnsafe
theorem tensSaysUpto_row_tie : Rows.tensSaysUptoRow.laidByTextAt .later Tryd.pinned [.sentinel, .sentinel, .sentinel, .sentinel, .sentinel, .sentinel, .sentinel, .sentinel, .sentinel, .sentinel, .sentinel, .sentinel, .sentinel, .sentinel, .sentinel, .sentinel, .sentinel, .sentinel, .sentinel, .sentinel, .sentinel] true :=
  OpenClaim.laidByTextAt_later rfl rfl tie noOwnUnsafe
theorem tensBytesUpto_row_tie : Rows.tensBytesUptoRow.laidByTextAt .later Tryd.pinned [.sentinel, .sentinel, .sentinel, .sentinel, .sentinel, .sentinel, .sentinel, .sentinel, .sentinel, .sentinel, .sentinel, .sentinel, .sentinel, .sentinel, .sentinel, .sentinel, .sentinel, .sentinel, .sentinel, .sentinel, .sentinel] true :=
  OpenClaim.laidByTextAt_later rfl rfl tie noOwnUnsafe
theorem tensBackUpto_row_tie : Rows.tensBackUptoRow.laidByTextAt .later Tryd.pinned [.sentinel, .sentinel, .sentinel, .sentinel, .sentinel, .sentinel, .sentinel, .sentinel, .sentinel, .sentinel, .sentinel, .sentinel, .sentinel, .sentinel, .sentinel, .sentinel, .sentinel, .sentinel, .sentinel, .sentinel, .sentinel] true :=
  OpenClaim.laidByTextAt_later rfl rfl tie noOwnUnsafe
theorem shapeSaysUpto_row_tie : Rows.shapeSaysUptoRow.laidByTextAt .later Tryd.pinned [.data, .data, .data, .sentinel, .sentinel, .sentinel, .sentinel, .sentinel, .sentinel, .sentinel, .sentinel, .sentinel, .sentinel, .sentinel, .sentinel, .sentinel, .sentinel, .sentinel, .sentinel, .sentinel, .sentinel, .sentinel, .sentinel, .sentinel] true :=
  OpenClaim.laidByTextAt_later rfl rfl tie4 noOwnUnsafe
end Go.Proofs.YtgifehmpgcenjaaDoor
