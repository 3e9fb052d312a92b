/-
  NARROWER THAN 'FOR EVERY INPUT', by the rows' own cells (each row's printed sentence says how): ShapeBounds: laid · ShapeSteps: laid · ShapePlaces: laid · ShapeEach: laid · TensRounds: laid · PoolBetween: laid · PoolGreatest: laid · TensCopies: laid · PoolSays: laid · TensRows: laid · TensSays: laid · TensBytes: laid · TensBack: laid · ShapeSays: laid.
  DERIVED. THE GIVEN ROWS OF THIS SEAT. 14 by the template 'for every input the law returns true; each argument reads behind the call as it read before'; 0 by the template 'total and deterministic' (their statements: YtgifehmpgcenjaaDoorTotals.lean).
  GIVEN WITH THE SEED: the statements are not yours to turn. If you find one false, say at which input.
  Laid BY PROGRAM, IN A SANDBOX (cutbox-rows.mjs): the forced cells as the released guide's own fill.sh prints them over the translation 203828e8c573d4b2… (all of the seat's roots in one cut). By AI agents, Wed Nov 11 2026. No macro, syntax, notation, axiom, sorry.
-/
import Derived.Test.YtgifehmpgcenjaaDoorChecked
import GoSem.Claim
import GoSem.ClaimJoined
import GoSem.ClaimMapViews
import Derived.JoinedTies
import Derived.KernelRfl
namespace Go.Proofs.YtgifehmpgcenjaaDoor
/- THE CELL 'sum', in the pinned program and in every row, IS THE sha256 OF THE DUMP (.gsa) THAT YtgifehmpgcenjaaDoorProg.lean LOADS. Nothing in Lean hashes anything: it is a label: what it is worth is what the hold of that sum in a sandbox is worth. -/
noncomputable def Tryd.pinned : Pinned := { name := "ytgifehmpgcenjaadoor", sum := "203828e8c573d4b20d9ba5a2a3542f98b45fab39d3e90fbc5f2dfa853a1e0701", checked := Tryd.checked }
namespace Rows
def none {H : Type} : Left H := { results := [], args := [] }

/- WHAT THE LISTED PACKAGE-LEVEL VARIABLES READ AS WHEN THE CALL BEGINS. Each datum BY PROGRAM (the guide's laid-datum.mjs) off the statement by which the dump's own 'gosem.cut.vars' lays the variable. In a bare row this is a premise. The card (YtgifehmpgcenjaaDoorCards.lean) ties it to the program's text. -/
def laid_lodge_api_ErrShape {H : Type} : DataW H := .iface "*errors.errorString" (.ptr (.agg [.lit (.string [110, 111, 116, 32, 116, 104, 101, 32, 115, 104, 97, 112, 101, 32, 116, 104, 97, 116, 32, 105, 116, 32, 104, 97, 115, 32, 116, 111, 32, 104, 97, 118, 101])]))
def laid_lodge_api_ErrRange {H : Type} : DataW H := .iface "*errors.errorString" (.ptr (.agg [.lit (.string [97, 32, 110, 117, 109, 98, 101, 114, 32, 111, 117, 116, 32, 111, 102, 32, 105, 116, 115, 32, 114, 97, 110, 103, 101])]))
def laid_lodge_api_ErrKind {H : Type} : DataW H := .iface "*errors.errorString" (.ptr (.agg [.lit (.string [110, 111, 32, 115, 117, 99, 104, 32, 107, 105, 110, 100])]))
def laid_lodge_api_ErrMany {H : Type} : DataW H := .iface "*errors.errorString" (.ptr (.agg [.lit (.string [116, 111, 111, 32, 109, 97, 110, 121])]))
def laid_lodge_api_ErrEnd {H : Type} : DataW H := .iface "*errors.errorString" (.ptr (.agg [.lit (.string [105, 116, 32, 101, 110, 100, 115, 32, 116, 111, 111, 32, 101, 97, 114, 108, 121])]))
def laid_lodge_api_ErrRoom {H : Type} : DataW H := .iface "*errors.errorString" (.ptr (.agg [.lit (.string [116, 104, 101, 114, 101, 32, 105, 115, 32, 110, 111, 32, 114, 111, 111, 109])]))
def laid_lodge_api_ErrNone {H : Type} : DataW H := .iface "*errors.errorString" (.ptr (.agg [.lit (.string [116, 104, 101, 114, 101, 32, 105, 115, 32, 110, 111, 110, 101])]))
def laid_lodge_api_ErrAlias {H : Type} : DataW H := .iface "*errors.errorString" (.ptr (.agg [.lit (.string [105, 116, 32, 108, 105, 101, 115, 32, 111, 118, 101, 114, 32, 119, 104, 97, 116, 32, 105, 115, 32, 114, 101, 97, 100])]))
def laid_lodge_api_ErrCost {H : Type} : DataW H := .iface "*errors.errorString" (.ptr (.agg [.lit (.string [105, 116, 32, 99, 111, 115, 116, 115, 32, 116, 111, 111, 32, 109, 117, 99, 104])]))
def laid_lodge_api_ErrJump {H : Type} : DataW H := .iface "*errors.errorString" (.ptr (.agg [.lit (.string [105, 116, 32, 103, 111, 101, 115, 32, 119, 104, 101, 114, 101, 32, 116, 104, 101, 114, 101, 32, 105, 115, 32, 110, 111, 116, 104, 105, 110, 103])]))
def laid_lodge_api_ErrCycle {H : Type} : DataW H := .iface "*errors.errorString" (.ptr (.agg [.lit (.string [105, 116, 32, 103, 111, 101, 115, 32, 114, 111, 117, 110, 100, 32, 105, 110, 32, 97, 32, 114, 105, 110, 103])]))
def laid_lodge_api_ErrFuel {H : Type} : DataW H := .iface "*errors.errorString" (.ptr (.agg [.lit (.string [110, 111, 32, 102, 117, 101, 108, 32, 105, 115, 32, 108, 101, 102, 116])]))
def laid_lodge_api_ErrFull {H : Type} : DataW H := .iface "*errors.errorString" (.ptr (.agg [.lit (.string [116, 104, 101, 32, 113, 117, 101, 117, 101, 32, 105, 115, 32, 102, 117, 108, 108])]))
def laid_lodge_api_ErrQuota {H : Type} : DataW H := .iface "*errors.errorString" (.ptr (.agg [.lit (.string [98, 101, 121, 111, 110, 100, 32, 116, 104, 101, 32, 113, 117, 111, 116, 97])]))
def laid_lodge_api_ErrCap {H : Type} : DataW H := .iface "*errors.errorString" (.ptr (.agg [.lit (.string [110, 111, 32, 115, 117, 99, 104, 32, 114, 105, 103, 104, 116])]))
def laid_lodge_api_ErrStale {H : Type} : DataW H := .iface "*errors.errorString" (.ptr (.agg [.lit (.string [111, 102, 32, 97, 110, 32, 101, 108, 100, 101, 114, 32, 103, 101, 110, 101, 114, 97, 116, 105, 111, 110])]))
def laid_lodge_api_ErrTag {H : Type} : DataW H := .iface "*errors.errorString" (.ptr (.agg [.lit (.string [116, 104, 101, 32, 116, 97, 103, 32, 105, 115, 32, 97, 110, 111, 116, 104, 101, 114, 32, 111, 110, 101])]))
def laid_lodge_api_ErrOld {H : Type} : DataW H := .iface "*errors.errorString" (.ptr (.agg [.lit (.string [97, 32, 99, 111, 117, 110, 116, 101, 114, 32, 116, 104, 97, 116, 32, 105, 115, 32, 110, 111, 116, 32, 97, 98, 111, 118, 101, 32, 116, 104, 101, 32, 108, 97, 115, 116, 32, 111, 110, 101])]))
def laid_lodge_api_ErrTenant {H : Type} : DataW H := .iface "*errors.errorString" (.ptr (.agg [.lit (.string [110, 111, 32, 115, 117, 99, 104, 32, 116, 101, 110, 97, 110, 116])]))
def laid_lodge_api_ErrWord {H : Type} : DataW H := .iface "*errors.errorString" (.ptr (.agg [.lit (.string [110, 111, 32, 115, 117, 99, 104, 32, 119, 111, 114, 100])]))
def laid_lodge_api_ErrNumber {H : Type} : DataW H := .iface "*errors.errorString" (.ptr (.agg [.lit (.string [110, 111, 32, 115, 117, 99, 104, 32, 110, 117, 109, 98, 101, 114])]))
def laid_math_bits_deBruijn32tab {H : Type} : DataW H := .agg [.lit (.int .u8 0), .lit (.int .u8 1), .lit (.int .u8 28), .lit (.int .u8 2), .lit (.int .u8 29), .lit (.int .u8 14), .lit (.int .u8 24), .lit (.int .u8 3), .lit (.int .u8 30), .lit (.int .u8 22), .lit (.int .u8 20), .lit (.int .u8 15), .lit (.int .u8 25), .lit (.int .u8 17), .lit (.int .u8 4), .lit (.int .u8 8), .lit (.int .u8 31), .lit (.int .u8 27), .lit (.int .u8 13), .lit (.int .u8 23), .lit (.int .u8 21), .lit (.int .u8 19), .lit (.int .u8 16), .lit (.int .u8 7), .lit (.int .u8 26), .lit (.int .u8 12), .lit (.int .u8 18), .lit (.int .u8 6), .lit (.int .u8 11), .lit (.int .u8 5), .lit (.int .u8 10), .lit (.int .u8 9)]
def laid_math_bits_deBruijn64tab {H : Type} : DataW H := .agg [.lit (.int .u8 0), .lit (.int .u8 1), .lit (.int .u8 56), .lit (.int .u8 2), .lit (.int .u8 57), .lit (.int .u8 49), .lit (.int .u8 28), .lit (.int .u8 3), .lit (.int .u8 61), .lit (.int .u8 58), .lit (.int .u8 42), .lit (.int .u8 50), .lit (.int .u8 38), .lit (.int .u8 29), .lit (.int .u8 17), .lit (.int .u8 4), .lit (.int .u8 62), .lit (.int .u8 47), .lit (.int .u8 59), .lit (.int .u8 36), .lit (.int .u8 45), .lit (.int .u8 43), .lit (.int .u8 51), .lit (.int .u8 22), .lit (.int .u8 53), .lit (.int .u8 39), .lit (.int .u8 33), .lit (.int .u8 30), .lit (.int .u8 24), .lit (.int .u8 18), .lit (.int .u8 12), .lit (.int .u8 5), .lit (.int .u8 63), .lit (.int .u8 55), .lit (.int .u8 48), .lit (.int .u8 27), .lit (.int .u8 60), .lit (.int .u8 41), .lit (.int .u8 37), .lit (.int .u8 16), .lit (.int .u8 46), .lit (.int .u8 35), .lit (.int .u8 44), .lit (.int .u8 21), .lit (.int .u8 52), .lit (.int .u8 32), .lit (.int .u8 23), .lit (.int .u8 11), .lit (.int .u8 54), .lit (.int .u8 26), .lit (.int .u8 40), .lit (.int .u8 15), .lit (.int .u8 34), .lit (.int .u8 20), .lit (.int .u8 31), .lit (.int .u8 10), .lit (.int .u8 25), .lit (.int .u8 14), .lit (.int .u8 19), .lit (.int .u8 9), .lit (.int .u8 13), .lit (.int .u8 8), .lit (.int .u8 7), .lit (.int .u8 6)]
def laid_internal_strconv_uint64pow10 {H : Type} : DataW H := .agg [.lit (.int .u64 1), .lit (.int .u64 10), .lit (.int .u64 100), .lit (.int .u64 1000), .lit (.int .u64 10000), .lit (.int .u64 100000), .lit (.int .u64 1000000), .lit (.int .u64 10000000), .lit (.int .u64 100000000), .lit (.int .u64 1000000000), .lit (.int .u64 10000000000), .lit (.int .u64 100000000000), .lit (.int .u64 1000000000000), .lit (.int .u64 10000000000000), .lit (.int .u64 100000000000000), .lit (.int .u64 1000000000000000), .lit (.int .u64 10000000000000000), .lit (.int .u64 100000000000000000), .lit (.int .u64 1000000000000000000), .lit (.int .u64 10000000000000000000)]

/-- 'lodgelaw5.ShapeBounds': WHATEVER THE INPUT: true; the input reads as it did. -/
def shapeBoundsSpec : ChangeSpec := { name := "shapeBounds", fn := fun _ => fun
  | [d1, d2] => { results := [.lit (.bool true)], args := [d1, d2] }
  | _ => none }
def shapeBoundsRow : OpenClaim := { program := "ytgifehmpgcenjaadoor", sum := "203828e8c573d4b20d9ba5a2a3542f98b45fab39d3e90fbc5f2dfa853a1e0701", func := "lodge/lodgelaw5.ShapeBounds", spec := "shapeBounds", named := ["lodge/api.ErrMany", "lodge/api.ErrRange", "lodge/api.ErrShape", "lodge/api.ErrKind", "lodge/api.ErrEnd", "lodge/api.ErrRoom", "lodge/api.ErrNone", "lodge/api.ErrAlias", "lodge/api.ErrCost", "lodge/api.ErrJump", "lodge/api.ErrCycle", "lodge/api.ErrFuel", "lodge/api.ErrFull", "lodge/api.ErrQuota", "lodge/api.ErrCap", "lodge/api.ErrStale", "lodge/api.ErrTag", "lodge/api.ErrOld", "lodge/api.ErrTenant", "lodge/api.ErrWord", "lodge/api.ErrNumber"], apart := false, laid := [("lodge/api.ErrShape", laid_lodge_api_ErrShape), ("lodge/api.ErrRange", laid_lodge_api_ErrRange), ("lodge/api.ErrKind", laid_lodge_api_ErrKind), ("lodge/api.ErrMany", laid_lodge_api_ErrMany), ("lodge/api.ErrEnd", laid_lodge_api_ErrEnd), ("lodge/api.ErrRoom", laid_lodge_api_ErrRoom), ("lodge/api.ErrNone", laid_lodge_api_ErrNone), ("lodge/api.ErrAlias", laid_lodge_api_ErrAlias), ("lodge/api.ErrCost", laid_lodge_api_ErrCost), ("lodge/api.ErrJump", laid_lodge_api_ErrJump), ("lodge/api.ErrCycle", laid_lodge_api_ErrCycle), ("lodge/api.ErrFuel", laid_lodge_api_ErrFuel), ("lodge/api.ErrFull", laid_lodge_api_ErrFull), ("lodge/api.ErrQuota", laid_lodge_api_ErrQuota), ("lodge/api.ErrCap", laid_lodge_api_ErrCap), ("lodge/api.ErrStale", laid_lodge_api_ErrStale), ("lodge/api.ErrTag", laid_lodge_api_ErrTag), ("lodge/api.ErrOld", laid_lodge_api_ErrOld), ("lodge/api.ErrTenant", laid_lodge_api_ErrTenant), ("lodge/api.ErrWord", laid_lodge_api_ErrWord), ("lodge/api.ErrNumber", laid_lodge_api_ErrNumber)] }
def ShapeBoundsSaid : Prop := shapeBoundsRow.holds Tryd.pinned (OpenSpec.ofChange shapeBoundsSpec)

/-- ITS FALSE NEIGHBOUR: 'it returns false'. Refute it at one input. -/
def shapeBoundsWrong : ChangeSpec := { name := "shapeBounds", fn := fun _ => fun
  | [d1, d2] => { results := [.lit (.bool false)], args := [d1, d2] }
  | _ => none }
def ShapeBoundsWrongFalsely : Prop := shapeBoundsRow.holds Tryd.pinned (OpenSpec.ofChange shapeBoundsWrong)

/-- 'lodgelaw5.ShapeSteps': WHATEVER THE INPUT: true; the input reads as it did. -/
def shapeStepsSpec : ChangeSpec := { name := "shapeSteps", fn := fun _ => fun
  | [d1, d2, d3] => { results := [.lit (.bool true)], args := [d1, d2, d3] }
  | _ => none }
def shapeStepsRow : OpenClaim := { program := "ytgifehmpgcenjaadoor", sum := "203828e8c573d4b20d9ba5a2a3542f98b45fab39d3e90fbc5f2dfa853a1e0701", func := "lodge/lodgelaw5.ShapeSteps", spec := "shapeSteps", named := ["lodge/api.ErrMany", "lodge/api.ErrRange"], apart := false, laid := [("lodge/api.ErrRange", laid_lodge_api_ErrRange), ("lodge/api.ErrMany", laid_lodge_api_ErrMany)] }
def ShapeStepsSaid : Prop := shapeStepsRow.holds Tryd.pinned (OpenSpec.ofChange shapeStepsSpec)

/-- ITS FALSE NEIGHBOUR: 'it returns false'. Refute it at one input. -/
def shapeStepsWrong : ChangeSpec := { name := "shapeSteps", fn := fun _ => fun
  | [d1, d2, d3] => { results := [.lit (.bool false)], args := [d1, d2, d3] }
  | _ => none }
def ShapeStepsWrongFalsely : Prop := shapeStepsRow.holds Tryd.pinned (OpenSpec.ofChange shapeStepsWrong)

/-- 'lodgelaw5.ShapePlaces': WHATEVER THE INPUT: true; the input reads as it did. -/
def shapePlacesSpec : ChangeSpec := { name := "shapePlaces", fn := fun _ => fun
  | [d1, d2, d3] => { results := [.lit (.bool true)], args := [d1, d2, d3] }
  | _ => none }
def shapePlacesRow : OpenClaim := { program := "ytgifehmpgcenjaadoor", sum := "203828e8c573d4b20d9ba5a2a3542f98b45fab39d3e90fbc5f2dfa853a1e0701", func := "lodge/lodgelaw5.ShapePlaces", spec := "shapePlaces", named := ["lodge/api.ErrMany", "lodge/api.ErrRange"], apart := false, laid := [("lodge/api.ErrRange", laid_lodge_api_ErrRange), ("lodge/api.ErrMany", laid_lodge_api_ErrMany)] }
def ShapePlacesSaid : Prop := shapePlacesRow.holds Tryd.pinned (OpenSpec.ofChange shapePlacesSpec)

/-- ITS FALSE NEIGHBOUR: 'it returns false'. Refute it at one input. -/
def shapePlacesWrong : ChangeSpec := { name := "shapePlaces", fn := fun _ => fun
  | [d1, d2, d3] => { results := [.lit (.bool false)], args := [d1, d2, d3] }
  | _ => none }
def ShapePlacesWrongFalsely : Prop := shapePlacesRow.holds Tryd.pinned (OpenSpec.ofChange shapePlacesWrong)

/-- 'lodgelaw5.ShapeEach': WHATEVER THE INPUT: true; the input reads as it did. -/
def shapeEachSpec : ChangeSpec := { name := "shapeEach", fn := fun _ => fun
  | [d1, d2] => { results := [.lit (.bool true)], args := [d1, d2] }
  | _ => none }
def shapeEachRow : OpenClaim := { program := "ytgifehmpgcenjaadoor", sum := "203828e8c573d4b20d9ba5a2a3542f98b45fab39d3e90fbc5f2dfa853a1e0701", func := "lodge/lodgelaw5.ShapeEach", spec := "shapeEach", unfollowed := true, recurses := true, named := ["lodge/api.ErrMany", "lodge/api.ErrRange"], apart := false, laid := [("lodge/api.ErrRange", laid_lodge_api_ErrRange), ("lodge/api.ErrMany", laid_lodge_api_ErrMany)] }
def ShapeEachSaid : Prop := shapeEachRow.holds Tryd.pinned (OpenSpec.ofChange shapeEachSpec)

/-- ITS FALSE NEIGHBOUR: 'it returns false'. Refute it at one input. -/
def shapeEachWrong : ChangeSpec := { name := "shapeEach", fn := fun _ => fun
  | [d1, d2] => { results := [.lit (.bool false)], args := [d1, d2] }
  | _ => none }
def ShapeEachWrongFalsely : Prop := shapeEachRow.holds Tryd.pinned (OpenSpec.ofChange shapeEachWrong)

/-- 'lodgelaw6.TensRounds': WHATEVER THE INPUT: true; the input reads as it did. -/
def tensRoundsSpec : ChangeSpec := { name := "tensRounds", fn := fun _ => fun
  | [d1, d2] => { results := [.lit (.bool true)], args := [d1, d2] }
  | _ => none }
def tensRoundsRow : OpenClaim := { program := "ytgifehmpgcenjaadoor", sum := "203828e8c573d4b20d9ba5a2a3542f98b45fab39d3e90fbc5f2dfa853a1e0701", func := "lodge/lodgelaw6.TensRounds", spec := "tensRounds", named := ["lodge/api.ErrShape", "lodge/api.ErrRange", "lodge/api.ErrMany"], apart := false, laid := [("lodge/api.ErrShape", laid_lodge_api_ErrShape), ("lodge/api.ErrRange", laid_lodge_api_ErrRange), ("lodge/api.ErrMany", laid_lodge_api_ErrMany)] }
def TensRoundsSaid : Prop := tensRoundsRow.holds Tryd.pinned (OpenSpec.ofChange tensRoundsSpec)

/-- ITS FALSE NEIGHBOUR: 'it returns false'. Refute it at one input. -/
def tensRoundsWrong : ChangeSpec := { name := "tensRounds", fn := fun _ => fun
  | [d1, d2] => { results := [.lit (.bool false)], args := [d1, d2] }
  | _ => none }
def TensRoundsWrongFalsely : Prop := tensRoundsRow.holds Tryd.pinned (OpenSpec.ofChange tensRoundsWrong)

/-- 'lodgelaw10.PoolBetween': WHATEVER THE INPUT: true; the input reads as it did. -/
def poolBetweenSpec : ChangeSpec := { name := "poolBetween", fn := fun _ => fun
  | [d1, d2, d3, d4] => { results := [.lit (.bool true)], args := [d1, d2, d3, d4] }
  | _ => none }
def poolBetweenRow : OpenClaim := { program := "ytgifehmpgcenjaadoor", sum := "203828e8c573d4b20d9ba5a2a3542f98b45fab39d3e90fbc5f2dfa853a1e0701", func := "lodge/lodgelaw10.PoolBetween", spec := "poolBetween", unfollowed := true, recurses := true, named := ["lodge/api.ErrShape", "lodge/api.ErrRange", "lodge/api.ErrMany"], apart := false, laid := [("lodge/api.ErrShape", laid_lodge_api_ErrShape), ("lodge/api.ErrRange", laid_lodge_api_ErrRange), ("lodge/api.ErrMany", laid_lodge_api_ErrMany)] }
def PoolBetweenSaid : Prop := poolBetweenRow.holds Tryd.pinned (OpenSpec.ofChange poolBetweenSpec)

/-- ITS FALSE NEIGHBOUR: 'it returns false'. Refute it at one input. -/
def poolBetweenWrong : ChangeSpec := { name := "poolBetween", fn := fun _ => fun
  | [d1, d2, d3, d4] => { results := [.lit (.bool false)], args := [d1, d2, d3, d4] }
  | _ => none }
def PoolBetweenWrongFalsely : Prop := poolBetweenRow.holds Tryd.pinned (OpenSpec.ofChange poolBetweenWrong)

/-- 'lodgelaw10.PoolGreatest': WHATEVER THE INPUT: true; the input reads as it did. -/
def poolGreatestSpec : ChangeSpec := { name := "poolGreatest", fn := fun _ => fun
  | [d1, d2, d3] => { results := [.lit (.bool true)], args := [d1, d2, d3] }
  | _ => none }
def poolGreatestRow : OpenClaim := { program := "ytgifehmpgcenjaadoor", sum := "203828e8c573d4b20d9ba5a2a3542f98b45fab39d3e90fbc5f2dfa853a1e0701", func := "lodge/lodgelaw10.PoolGreatest", spec := "poolGreatest", unfollowed := true, recurses := true, named := ["lodge/api.ErrShape", "lodge/api.ErrRange", "lodge/api.ErrMany"], apart := false, laid := [("lodge/api.ErrShape", laid_lodge_api_ErrShape), ("lodge/api.ErrRange", laid_lodge_api_ErrRange), ("lodge/api.ErrMany", laid_lodge_api_ErrMany)] }
def PoolGreatestSaid : Prop := poolGreatestRow.holds Tryd.pinned (OpenSpec.ofChange poolGreatestSpec)

/-- ITS FALSE NEIGHBOUR: 'it returns false'. Refute it at one input. -/
def poolGreatestWrong : ChangeSpec := { name := "poolGreatest", fn := fun _ => fun
  | [d1, d2, d3] => { results := [.lit (.bool false)], args := [d1, d2, d3] }
  | _ => none }
def PoolGreatestWrongFalsely : Prop := poolGreatestRow.holds Tryd.pinned (OpenSpec.ofChange poolGreatestWrong)

/-- 'lodgelaw6.TensCopies': WHATEVER THE INPUT: true; the input reads as it did. -/
def tensCopiesSpec : ChangeSpec := { name := "tensCopies", fn := fun _ => fun
  | [d1, d2] => { results := [.lit (.bool true)], args := [d1, d2] }
  | _ => none }
def tensCopiesRow : OpenClaim := { program := "ytgifehmpgcenjaadoor", sum := "203828e8c573d4b20d9ba5a2a3542f98b45fab39d3e90fbc5f2dfa853a1e0701", func := "lodge/lodgelaw6.TensCopies", spec := "tensCopies", named := ["lodge/api.ErrShape", "lodge/api.ErrRange", "lodge/api.ErrMany"], apart := false, laid := [("lodge/api.ErrShape", laid_lodge_api_ErrShape), ("lodge/api.ErrRange", laid_lodge_api_ErrRange), ("lodge/api.ErrMany", laid_lodge_api_ErrMany)] }
def TensCopiesSaid : Prop := tensCopiesRow.holds Tryd.pinned (OpenSpec.ofChange tensCopiesSpec)

/-- ITS FALSE NEIGHBOUR: 'it returns false'. Refute it at one input. -/
def tensCopiesWrong : ChangeSpec := { name := "tensCopies", fn := fun _ => fun
  | [d1, d2] => { results := [.lit (.bool false)], args := [d1, d2] }
  | _ => none }
def TensCopiesWrongFalsely : Prop := tensCopiesRow.holds Tryd.pinned (OpenSpec.ofChange tensCopiesWrong)

/-- 'lodgelaw10.PoolSays': WHATEVER THE INPUT: true; the input reads as it did. -/
def poolSaysSpec : ChangeSpec := { name := "poolSays", fn := fun _ => fun
  | [d1, d2, d3] => { results := [.lit (.bool true)], args := [d1, d2, d3] }
  | _ => none }
def poolSaysRow : OpenClaim := { program := "ytgifehmpgcenjaadoor", sum := "203828e8c573d4b20d9ba5a2a3542f98b45fab39d3e90fbc5f2dfa853a1e0701", func := "lodge/lodgelaw10.PoolSays", spec := "poolSays", unfollowed := true, recurses := true, named := ["lodge/api.ErrShape", "lodge/api.ErrRange", "lodge/api.ErrMany", "lodge/api.ErrKind", "lodge/api.ErrEnd", "lodge/api.ErrRoom", "lodge/api.ErrNone", "lodge/api.ErrAlias", "lodge/api.ErrCost", "lodge/api.ErrJump", "lodge/api.ErrCycle", "lodge/api.ErrFuel", "lodge/api.ErrFull", "lodge/api.ErrQuota", "lodge/api.ErrCap", "lodge/api.ErrStale", "lodge/api.ErrTag", "lodge/api.ErrOld", "lodge/api.ErrTenant", "lodge/api.ErrWord", "lodge/api.ErrNumber"], apart := false, laid := [("lodge/api.ErrShape", laid_lodge_api_ErrShape), ("lodge/api.ErrRange", laid_lodge_api_ErrRange), ("lodge/api.ErrKind", laid_lodge_api_ErrKind), ("lodge/api.ErrMany", laid_lodge_api_ErrMany), ("lodge/api.ErrEnd", laid_lodge_api_ErrEnd), ("lodge/api.ErrRoom", laid_lodge_api_ErrRoom), ("lodge/api.ErrNone", laid_lodge_api_ErrNone), ("lodge/api.ErrAlias", laid_lodge_api_ErrAlias), ("lodge/api.ErrCost", laid_lodge_api_ErrCost), ("lodge/api.ErrJump", laid_lodge_api_ErrJump), ("lodge/api.ErrCycle", laid_lodge_api_ErrCycle), ("lodge/api.ErrFuel", laid_lodge_api_ErrFuel), ("lodge/api.ErrFull", laid_lodge_api_ErrFull), ("lodge/api.ErrQuota", laid_lodge_api_ErrQuota), ("lodge/api.ErrCap", laid_lodge_api_ErrCap), ("lodge/api.ErrStale", laid_lodge_api_ErrStale), ("lodge/api.ErrTag", laid_lodge_api_ErrTag), ("lodge/api.ErrOld", laid_lodge_api_ErrOld), ("lodge/api.ErrTenant", laid_lodge_api_ErrTenant), ("lodge/api.ErrWord", laid_lodge_api_ErrWord), ("lodge/api.ErrNumber", laid_lodge_api_ErrNumber)] }
def PoolSaysSaid : Prop := poolSaysRow.holds Tryd.pinned (OpenSpec.ofChange poolSaysSpec)

/-- ITS FALSE NEIGHBOUR: 'it returns false'. Refute it at one input. -/
def poolSaysWrong : ChangeSpec := { name := "poolSays", fn := fun _ => fun
  | [d1, d2, d3] => { results := [.lit (.bool false)], args := [d1, d2, d3] }
  | _ => none }
def PoolSaysWrongFalsely : Prop := poolSaysRow.holds Tryd.pinned (OpenSpec.ofChange poolSaysWrong)

/-- 'lodgelaw6.TensRows': WHATEVER THE INPUT: true; the input reads as it did. -/
def tensRowsSpec : ChangeSpec := { name := "tensRows", fn := fun _ => fun
  | [d1, d2, d3, d4] => { results := [.lit (.bool true)], args := [d1, d2, d3, d4] }
  | _ => none }
def tensRowsRow : OpenClaim := { program := "ytgifehmpgcenjaadoor", sum := "203828e8c573d4b20d9ba5a2a3542f98b45fab39d3e90fbc5f2dfa853a1e0701", func := "lodge/lodgelaw6.TensRows", spec := "tensRows", named := ["lodge/api.ErrShape", "lodge/api.ErrRange", "lodge/api.ErrMany"], apart := false, laid := [("lodge/api.ErrShape", laid_lodge_api_ErrShape), ("lodge/api.ErrRange", laid_lodge_api_ErrRange), ("lodge/api.ErrMany", laid_lodge_api_ErrMany)] }
def TensRowsSaid : Prop := tensRowsRow.holds Tryd.pinned (OpenSpec.ofChange tensRowsSpec)

/-- ITS FALSE NEIGHBOUR: 'it returns false'. Refute it at one input. -/
def tensRowsWrong : ChangeSpec := { name := "tensRows", fn := fun _ => fun
  | [d1, d2, d3, d4] => { results := [.lit (.bool false)], args := [d1, d2, d3, d4] }
  | _ => none }
def TensRowsWrongFalsely : Prop := tensRowsRow.holds Tryd.pinned (OpenSpec.ofChange tensRowsWrong)

/-- 'lodgelaw6.TensSays': WHATEVER THE INPUT: true; the input reads as it did. -/
def tensSaysSpec : ChangeSpec := { name := "tensSays", fn := fun _ => fun
  | [d1, d2, d3] => { results := [.lit (.bool true)], args := [d1, d2, d3] }
  | _ => none }
def tensSaysRow : OpenClaim := { program := "ytgifehmpgcenjaadoor", sum := "203828e8c573d4b20d9ba5a2a3542f98b45fab39d3e90fbc5f2dfa853a1e0701", func := "lodge/lodgelaw6.TensSays", spec := "tensSays", named := ["lodge/api.ErrShape", "lodge/api.ErrRange", "lodge/api.ErrMany", "lodge/api.ErrKind", "lodge/api.ErrEnd", "lodge/api.ErrRoom", "lodge/api.ErrNone", "lodge/api.ErrAlias", "lodge/api.ErrCost", "lodge/api.ErrJump", "lodge/api.ErrCycle", "lodge/api.ErrFuel", "lodge/api.ErrFull", "lodge/api.ErrQuota", "lodge/api.ErrCap", "lodge/api.ErrStale", "lodge/api.ErrTag", "lodge/api.ErrOld", "lodge/api.ErrTenant", "lodge/api.ErrWord", "lodge/api.ErrNumber"], apart := false, laid := [("lodge/api.ErrShape", laid_lodge_api_ErrShape), ("lodge/api.ErrRange", laid_lodge_api_ErrRange), ("lodge/api.ErrKind", laid_lodge_api_ErrKind), ("lodge/api.ErrMany", laid_lodge_api_ErrMany), ("lodge/api.ErrEnd", laid_lodge_api_ErrEnd), ("lodge/api.ErrRoom", laid_lodge_api_ErrRoom), ("lodge/api.ErrNone", laid_lodge_api_ErrNone), ("lodge/api.ErrAlias", laid_lodge_api_ErrAlias), ("lodge/api.ErrCost", laid_lodge_api_ErrCost), ("lodge/api.ErrJump", laid_lodge_api_ErrJump), ("lodge/api.ErrCycle", laid_lodge_api_ErrCycle), ("lodge/api.ErrFuel", laid_lodge_api_ErrFuel), ("lodge/api.ErrFull", laid_lodge_api_ErrFull), ("lodge/api.ErrQuota", laid_lodge_api_ErrQuota), ("lodge/api.ErrCap", laid_lodge_api_ErrCap), ("lodge/api.ErrStale", laid_lodge_api_ErrStale), ("lodge/api.ErrTag", laid_lodge_api_ErrTag), ("lodge/api.ErrOld", laid_lodge_api_ErrOld), ("lodge/api.ErrTenant", laid_lodge_api_ErrTenant), ("lodge/api.ErrWord", laid_lodge_api_ErrWord), ("lodge/api.ErrNumber", laid_lodge_api_ErrNumber)] }
def TensSaysSaid : Prop := tensSaysRow.holds Tryd.pinned (OpenSpec.ofChange tensSaysSpec)

/-- ITS FALSE NEIGHBOUR: 'it returns false'. Refute it at one input. -/
def tensSaysWrong : ChangeSpec := { name := "tensSays", fn := fun _ => fun
  | [d1, d2, d3] => { results := [.lit (.bool false)], args := [d1, d2, d3] }
  | _ => none }
def TensSaysWrongFalsely : Prop := tensSaysRow.holds Tryd.pinned (OpenSpec.ofChange tensSaysWrong)

/-- 'lodgelaw6.TensBytes': WHATEVER THE INPUT: true; the input reads as it did. -/
def tensBytesSpec : ChangeSpec := { name := "tensBytes", fn := fun _ => fun
  | [d1, d2, d3] => { results := [.lit (.bool true)], args := [d1, d2, d3] }
  | _ => none }
def tensBytesRow : OpenClaim := { program := "ytgifehmpgcenjaadoor", sum := "203828e8c573d4b20d9ba5a2a3542f98b45fab39d3e90fbc5f2dfa853a1e0701", func := "lodge/lodgelaw6.TensBytes", spec := "tensBytes", named := ["lodge/api.ErrShape", "lodge/api.ErrRange", "lodge/api.ErrMany", "lodge/api.ErrEnd", "lodge/api.ErrKind", "lodge/api.ErrRoom", "lodge/api.ErrNone", "lodge/api.ErrAlias", "lodge/api.ErrCost", "lodge/api.ErrJump", "lodge/api.ErrCycle", "lodge/api.ErrFuel", "lodge/api.ErrFull", "lodge/api.ErrQuota", "lodge/api.ErrCap", "lodge/api.ErrStale", "lodge/api.ErrTag", "lodge/api.ErrOld", "lodge/api.ErrTenant", "lodge/api.ErrWord", "lodge/api.ErrNumber"], apart := false, laid := [("lodge/api.ErrShape", laid_lodge_api_ErrShape), ("lodge/api.ErrRange", laid_lodge_api_ErrRange), ("lodge/api.ErrKind", laid_lodge_api_ErrKind), ("lodge/api.ErrMany", laid_lodge_api_ErrMany), ("lodge/api.ErrEnd", laid_lodge_api_ErrEnd), ("lodge/api.ErrRoom", laid_lodge_api_ErrRoom), ("lodge/api.ErrNone", laid_lodge_api_ErrNone), ("lodge/api.ErrAlias", laid_lodge_api_ErrAlias), ("lodge/api.ErrCost", laid_lodge_api_ErrCost), ("lodge/api.ErrJump", laid_lodge_api_ErrJump), ("lodge/api.ErrCycle", laid_lodge_api_ErrCycle), ("lodge/api.ErrFuel", laid_lodge_api_ErrFuel), ("lodge/api.ErrFull", laid_lodge_api_ErrFull), ("lodge/api.ErrQuota", laid_lodge_api_ErrQuota), ("lodge/api.ErrCap", laid_lodge_api_ErrCap), ("lodge/api.ErrStale", laid_lodge_api_ErrStale), ("lodge/api.ErrTag", laid_lodge_api_ErrTag), ("lodge/api.ErrOld", laid_lodge_api_ErrOld), ("lodge/api.ErrTenant", laid_lodge_api_ErrTenant), ("lodge/api.ErrWord", laid_lodge_api_ErrWord), ("lodge/api.ErrNumber", laid_lodge_api_ErrNumber)] }
def TensBytesSaid : Prop := tensBytesRow.holds Tryd.pinned (OpenSpec.ofChange tensBytesSpec)

/-- ITS FALSE NEIGHBOUR: 'it returns false'. Refute it at one input. -/
def tensBytesWrong : ChangeSpec := { name := "tensBytes", fn := fun _ => fun
  | [d1, d2, d3] => { results := [.lit (.bool false)], args := [d1, d2, d3] }
  | _ => none }
def TensBytesWrongFalsely : Prop := tensBytesRow.holds Tryd.pinned (OpenSpec.ofChange tensBytesWrong)

/-- 'lodgelaw6.TensBack': WHATEVER THE INPUT: true; the input reads as it did. -/
def tensBackSpec : ChangeSpec := { name := "tensBack", fn := fun _ => fun
  | [d1, d2, d3] => { results := [.lit (.bool true)], args := [d1, d2, d3] }
  | _ => none }
def tensBackRow : OpenClaim := { program := "ytgifehmpgcenjaadoor", sum := "203828e8c573d4b20d9ba5a2a3542f98b45fab39d3e90fbc5f2dfa853a1e0701", func := "lodge/lodgelaw6.TensBack", spec := "tensBack", named := ["lodge/api.ErrShape", "lodge/api.ErrRange", "lodge/api.ErrMany", "lodge/api.ErrEnd", "lodge/api.ErrKind", "lodge/api.ErrRoom", "lodge/api.ErrNone", "lodge/api.ErrAlias", "lodge/api.ErrCost", "lodge/api.ErrJump", "lodge/api.ErrCycle", "lodge/api.ErrFuel", "lodge/api.ErrFull", "lodge/api.ErrQuota", "lodge/api.ErrCap", "lodge/api.ErrStale", "lodge/api.ErrTag", "lodge/api.ErrOld", "lodge/api.ErrTenant", "lodge/api.ErrWord", "lodge/api.ErrNumber"], apart := false, laid := [("lodge/api.ErrShape", laid_lodge_api_ErrShape), ("lodge/api.ErrRange", laid_lodge_api_ErrRange), ("lodge/api.ErrKind", laid_lodge_api_ErrKind), ("lodge/api.ErrMany", laid_lodge_api_ErrMany), ("lodge/api.ErrEnd", laid_lodge_api_ErrEnd), ("lodge/api.ErrRoom", laid_lodge_api_ErrRoom), ("lodge/api.ErrNone", laid_lodge_api_ErrNone), ("lodge/api.ErrAlias", laid_lodge_api_ErrAlias), ("lodge/api.ErrCost", laid_lodge_api_ErrCost), ("lodge/api.ErrJump", laid_lodge_api_ErrJump), ("lodge/api.ErrCycle", laid_lodge_api_ErrCycle), ("lodge/api.ErrFuel", laid_lodge_api_ErrFuel), ("lodge/api.ErrFull", laid_lodge_api_ErrFull), ("lodge/api.ErrQuota", laid_lodge_api_ErrQuota), ("lodge/api.ErrCap", laid_lodge_api_ErrCap), ("lodge/api.ErrStale", laid_lodge_api_ErrStale), ("lodge/api.ErrTag", laid_lodge_api_ErrTag), ("lodge/api.ErrOld", laid_lodge_api_ErrOld), ("lodge/api.ErrTenant", laid_lodge_api_ErrTenant), ("lodge/api.ErrWord", laid_lodge_api_ErrWord), ("lodge/api.ErrNumber", laid_lodge_api_ErrNumber)] }
def TensBackSaid : Prop := tensBackRow.holds Tryd.pinned (OpenSpec.ofChange tensBackSpec)

/-- ITS FALSE NEIGHBOUR: 'it returns false'. Refute it at one input. -/
def tensBackWrong : ChangeSpec := { name := "tensBack", fn := fun _ => fun
  | [d1, d2, d3] => { results := [.lit (.bool false)], args := [d1, d2, d3] }
  | _ => none }
def TensBackWrongFalsely : Prop := tensBackRow.holds Tryd.pinned (OpenSpec.ofChange tensBackWrong)

/-- 'lodgelaw5.ShapeSays': WHATEVER THE INPUT: true; the input reads as it did. -/
def shapeSaysSpec : ChangeSpec := { name := "shapeSays", fn := fun _ => fun
  | [d1, d2] => { results := [.lit (.bool true)], args := [d1, d2] }
  | _ => none }
def shapeSaysRow : OpenClaim := { program := "ytgifehmpgcenjaadoor", sum := "203828e8c573d4b20d9ba5a2a3542f98b45fab39d3e90fbc5f2dfa853a1e0701", func := "lodge/lodgelaw5.ShapeSays", spec := "shapeSays", inPlace := ["internal/abi.NoEscape", "internal/bytealg.MakeNoZero"], named := ["lodge/api.ErrMany", "lodge/api.ErrRange", "lodge/api.ErrShape", "lodge/api.ErrKind", "lodge/api.ErrEnd", "lodge/api.ErrRoom", "lodge/api.ErrNone", "lodge/api.ErrAlias", "lodge/api.ErrCost", "lodge/api.ErrJump", "lodge/api.ErrCycle", "lodge/api.ErrFuel", "lodge/api.ErrFull", "lodge/api.ErrQuota", "lodge/api.ErrCap", "lodge/api.ErrStale", "lodge/api.ErrTag", "lodge/api.ErrOld", "lodge/api.ErrTenant", "lodge/api.ErrWord", "lodge/api.ErrNumber", "internal/strconv.uint64pow10", "math/bits.deBruijn32tab", "math/bits.deBruijn64tab"], apart := false, laid := [("math/bits.deBruijn32tab", laid_math_bits_deBruijn32tab), ("math/bits.deBruijn64tab", laid_math_bits_deBruijn64tab), ("internal/strconv.uint64pow10", laid_internal_strconv_uint64pow10), ("lodge/api.ErrShape", laid_lodge_api_ErrShape), ("lodge/api.ErrRange", laid_lodge_api_ErrRange), ("lodge/api.ErrKind", laid_lodge_api_ErrKind), ("lodge/api.ErrMany", laid_lodge_api_ErrMany), ("lodge/api.ErrEnd", laid_lodge_api_ErrEnd), ("lodge/api.ErrRoom", laid_lodge_api_ErrRoom), ("lodge/api.ErrNone", laid_lodge_api_ErrNone), ("lodge/api.ErrAlias", laid_lodge_api_ErrAlias), ("lodge/api.ErrCost", laid_lodge_api_ErrCost), ("lodge/api.ErrJump", laid_lodge_api_ErrJump), ("lodge/api.ErrCycle", laid_lodge_api_ErrCycle), ("lodge/api.ErrFuel", laid_lodge_api_ErrFuel), ("lodge/api.ErrFull", laid_lodge_api_ErrFull), ("lodge/api.ErrQuota", laid_lodge_api_ErrQuota), ("lodge/api.ErrCap", laid_lodge_api_ErrCap), ("lodge/api.ErrStale", laid_lodge_api_ErrStale), ("lodge/api.ErrTag", laid_lodge_api_ErrTag), ("lodge/api.ErrOld", laid_lodge_api_ErrOld), ("lodge/api.ErrTenant", laid_lodge_api_ErrTenant), ("lodge/api.ErrWord", laid_lodge_api_ErrWord), ("lodge/api.ErrNumber", laid_lodge_api_ErrNumber)] }
def ShapeSaysSaid : Prop := shapeSaysRow.holds Tryd.pinned (OpenSpec.ofChange shapeSaysSpec)

/-- ITS FALSE NEIGHBOUR: 'it returns false'. Refute it at one input. -/
def shapeSaysWrong : ChangeSpec := { name := "shapeSays", fn := fun _ => fun
  | [d1, d2] => { results := [.lit (.bool false)], args := [d1, d2] }
  | _ => none }
def ShapeSaysWrongFalsely : Prop := shapeSaysRow.holds Tryd.pinned (OpenSpec.ofChange shapeSaysWrong)

/- THE SECOND FORM. 'bulk': how many values and letters a reading holds, each counted each time it is reached (what is shared counts as often as it is met; a slice's spare places count too). A statement '..UptoSaid' is the law's where the arguments, and the package variables that the reading takes, are together of bulk at most 1048576: NARROWER than '..Said'. Prove '..Said' where nothing that the law and all that it calls make is longer than what came in: it says more and counts as full. Else prove '..UptoSaid'. A law counts once. -/
mutual
def uptoBulk {H : Type} : DataW H → Nat
  | .lit (.string bytes) => bytes.length + 1
  | .lit _ => 1
  | .nil => 1
  | .ptr d => uptoBulk d + 1
  | .slice elems spare => uptoBulkAll elems + uptoBulkAll spare + 1
  | .agg parts => uptoBulkAll parts + 1
  | .iface _ d => uptoBulk d + 1
  | .map entries => uptoBulkEntries entries + 1
  | .held _ => 1
def uptoBulkAll {H : Type} : List (DataW H) → Nat
  | [] => 0
  | d :: r => uptoBulk d + uptoBulkAll r
def uptoBulkEntries {H : Type} : List (Lit × DataW H) → Nat
  | [] => 0
  | x :: r => uptoBulkEntry x + uptoBulkEntries r
def uptoBulkEntry {H : Type} : Lit × DataW H → Nat
  | (.string bytes, d) => bytes.length + uptoBulk d + 1
  | (_, d) => uptoBulk d + 1
 end
def uptoSmall : (H : Type) → List (DataW H) → Bool := fun _ ds => decide (uptoBulkAll ds ≤ 1048576)
def OpenSpec.upto (s : _root_.Go.ChangeSpec) : _root_.Go.OpenSpec := { _root_.Go.OpenSpec.ofChange s with cond := some uptoSmall }

/-- 'lodgelaw5.ShapeBounds', WHERE WHAT IT READS IS OF BULK AT MOST 1048576: true; the input reads as it did. -/
def shapeBoundsUptoRow : OpenClaim := { program := "ytgifehmpgcenjaadoor", sum := "203828e8c573d4b20d9ba5a2a3542f98b45fab39d3e90fbc5f2dfa853a1e0701", func := "lodge/lodgelaw5.ShapeBounds", spec := "shapeBounds", named := ["lodge/api.ErrMany", "lodge/api.ErrRange", "lodge/api.ErrShape", "lodge/api.ErrKind", "lodge/api.ErrEnd", "lodge/api.ErrRoom", "lodge/api.ErrNone", "lodge/api.ErrAlias", "lodge/api.ErrCost", "lodge/api.ErrJump", "lodge/api.ErrCycle", "lodge/api.ErrFuel", "lodge/api.ErrFull", "lodge/api.ErrQuota", "lodge/api.ErrCap", "lodge/api.ErrStale", "lodge/api.ErrTag", "lodge/api.ErrOld", "lodge/api.ErrTenant", "lodge/api.ErrWord", "lodge/api.ErrNumber"], apart := false, laid := [("lodge/api.ErrShape", laid_lodge_api_ErrShape), ("lodge/api.ErrRange", laid_lodge_api_ErrRange), ("lodge/api.ErrKind", laid_lodge_api_ErrKind), ("lodge/api.ErrMany", laid_lodge_api_ErrMany), ("lodge/api.ErrEnd", laid_lodge_api_ErrEnd), ("lodge/api.ErrRoom", laid_lodge_api_ErrRoom), ("lodge/api.ErrNone", laid_lodge_api_ErrNone), ("lodge/api.ErrAlias", laid_lodge_api_ErrAlias), ("lodge/api.ErrCost", laid_lodge_api_ErrCost), ("lodge/api.ErrJump", laid_lodge_api_ErrJump), ("lodge/api.ErrCycle", laid_lodge_api_ErrCycle), ("lodge/api.ErrFuel", laid_lodge_api_ErrFuel), ("lodge/api.ErrFull", laid_lodge_api_ErrFull), ("lodge/api.ErrQuota", laid_lodge_api_ErrQuota), ("lodge/api.ErrCap", laid_lodge_api_ErrCap), ("lodge/api.ErrStale", laid_lodge_api_ErrStale), ("lodge/api.ErrTag", laid_lodge_api_ErrTag), ("lodge/api.ErrOld", laid_lodge_api_ErrOld), ("lodge/api.ErrTenant", laid_lodge_api_ErrTenant), ("lodge/api.ErrWord", laid_lodge_api_ErrWord), ("lodge/api.ErrNumber", laid_lodge_api_ErrNumber)], narrowed := true }
def ShapeBoundsUptoSaid : Prop := shapeBoundsUptoRow.holds Tryd.pinned (OpenSpec.upto shapeBoundsSpec)

/-- 'lodgelaw5.ShapeSteps', WHERE WHAT IT READS IS OF BULK AT MOST 1048576: true; the input reads as it did. -/
def shapeStepsUptoRow : OpenClaim := { program := "ytgifehmpgcenjaadoor", sum := "203828e8c573d4b20d9ba5a2a3542f98b45fab39d3e90fbc5f2dfa853a1e0701", func := "lodge/lodgelaw5.ShapeSteps", spec := "shapeSteps", named := ["lodge/api.ErrMany", "lodge/api.ErrRange"], apart := false, laid := [("lodge/api.ErrRange", laid_lodge_api_ErrRange), ("lodge/api.ErrMany", laid_lodge_api_ErrMany)], narrowed := true }
def ShapeStepsUptoSaid : Prop := shapeStepsUptoRow.holds Tryd.pinned (OpenSpec.upto shapeStepsSpec)

/-- 'lodgelaw5.ShapePlaces', WHERE WHAT IT READS IS OF BULK AT MOST 1048576: true; the input reads as it did. -/
def shapePlacesUptoRow : OpenClaim := { program := "ytgifehmpgcenjaadoor", sum := "203828e8c573d4b20d9ba5a2a3542f98b45fab39d3e90fbc5f2dfa853a1e0701", func := "lodge/lodgelaw5.ShapePlaces", spec := "shapePlaces", named := ["lodge/api.ErrMany", "lodge/api.ErrRange"], apart := false, laid := [("lodge/api.ErrRange", laid_lodge_api_ErrRange), ("lodge/api.ErrMany", laid_lodge_api_ErrMany)], narrowed := true }
def ShapePlacesUptoSaid : Prop := shapePlacesUptoRow.holds Tryd.pinned (OpenSpec.upto shapePlacesSpec)

/-- 'lodgelaw5.ShapeEach', WHERE WHAT IT READS IS OF BULK AT MOST 1048576: true; the input reads as it did. -/
def shapeEachUptoRow : OpenClaim := { program := "ytgifehmpgcenjaadoor", sum := "203828e8c573d4b20d9ba5a2a3542f98b45fab39d3e90fbc5f2dfa853a1e0701", func := "lodge/lodgelaw5.ShapeEach", spec := "shapeEach", unfollowed := true, recurses := true, named := ["lodge/api.ErrMany", "lodge/api.ErrRange"], apart := false, laid := [("lodge/api.ErrRange", laid_lodge_api_ErrRange), ("lodge/api.ErrMany", laid_lodge_api_ErrMany)], narrowed := true }
def ShapeEachUptoSaid : Prop := shapeEachUptoRow.holds Tryd.pinned (OpenSpec.upto shapeEachSpec)

/-- 'lodgelaw6.TensRounds', WHERE WHAT IT READS IS OF BULK AT MOST 1048576: true; the input reads as it did. -/
def tensRoundsUptoRow : OpenClaim := { program := "ytgifehmpgcenjaadoor", sum := "203828e8c573d4b20d9ba5a2a3542f98b45fab39d3e90fbc5f2dfa853a1e0701", func := "lodge/lodgelaw6.TensRounds", spec := "tensRounds", named := ["lodge/api.ErrShape", "lodge/api.ErrRange", "lodge/api.ErrMany"], apart := false, laid := [("lodge/api.ErrShape", laid_lodge_api_ErrShape), ("lodge/api.ErrRange", laid_lodge_api_ErrRange), ("lodge/api.ErrMany", laid_lodge_api_ErrMany)], narrowed := true }
def TensRoundsUptoSaid : Prop := tensRoundsUptoRow.holds Tryd.pinned (OpenSpec.upto tensRoundsSpec)

/-- 'lodgelaw10.PoolBetween', WHERE WHAT IT READS IS OF BULK AT MOST 1048576: true; the input reads as it did. -/
def poolBetweenUptoRow : OpenClaim := { program := "ytgifehmpgcenjaadoor", sum := "203828e8c573d4b20d9ba5a2a3542f98b45fab39d3e90fbc5f2dfa853a1e0701", func := "lodge/lodgelaw10.PoolBetween", spec := "poolBetween", unfollowed := true, recurses := true, named := ["lodge/api.ErrShape", "lodge/api.ErrRange", "lodge/api.ErrMany"], apart := false, laid := [("lodge/api.ErrShape", laid_lodge_api_ErrShape), ("lodge/api.ErrRange", laid_lodge_api_ErrRange), ("lodge/api.ErrMany", laid_lodge_api_ErrMany)], narrowed := true }
def PoolBetweenUptoSaid : Prop := poolBetweenUptoRow.holds Tryd.pinned (OpenSpec.upto poolBetweenSpec)

/-- 'lodgelaw10.PoolGreatest', WHERE WHAT IT READS IS OF BULK AT MOST 1048576: true; the input reads as it did. -/
def poolGreatestUptoRow : OpenClaim := { program := "ytgifehmpgcenjaadoor", sum := "203828e8c573d4b20d9ba5a2a3542f98b45fab39d3e90fbc5f2dfa853a1e0701", func := "lodge/lodgelaw10.PoolGreatest", spec := "poolGreatest", unfollowed := true, recurses := true, named := ["lodge/api.ErrShape", "lodge/api.ErrRange", "lodge/api.ErrMany"], apart := false, laid := [("lodge/api.ErrShape", laid_lodge_api_ErrShape), ("lodge/api.ErrRange", laid_lodge_api_ErrRange), ("lodge/api.ErrMany", laid_lodge_api_ErrMany)], narrowed := true }
def PoolGreatestUptoSaid : Prop := poolGreatestUptoRow.holds Tryd.pinned (OpenSpec.upto poolGreatestSpec)

/-- 'lodgelaw6.TensCopies', WHERE WHAT IT READS IS OF BULK AT MOST 1048576: true; the input reads as it did. -/
def tensCopiesUptoRow : OpenClaim := { program := "ytgifehmpgcenjaadoor", sum := "203828e8c573d4b20d9ba5a2a3542f98b45fab39d3e90fbc5f2dfa853a1e0701", func := "lodge/lodgelaw6.TensCopies", spec := "tensCopies", named := ["lodge/api.ErrShape", "lodge/api.ErrRange", "lodge/api.ErrMany"], apart := false, laid := [("lodge/api.ErrShape", laid_lodge_api_ErrShape), ("lodge/api.ErrRange", laid_lodge_api_ErrRange), ("lodge/api.ErrMany", laid_lodge_api_ErrMany)], narrowed := true }
def TensCopiesUptoSaid : Prop := tensCopiesUptoRow.holds Tryd.pinned (OpenSpec.upto tensCopiesSpec)

/-- 'lodgelaw10.PoolSays', WHERE WHAT IT READS IS OF BULK AT MOST 1048576: true; the input reads as it did. -/
def poolSaysUptoRow : OpenClaim := { program := "ytgifehmpgcenjaadoor", sum := "203828e8c573d4b20d9ba5a2a3542f98b45fab39d3e90fbc5f2dfa853a1e0701", func := "lodge/lodgelaw10.PoolSays", spec := "poolSays", unfollowed := true, recurses := true, named := ["lodge/api.ErrShape", "lodge/api.ErrRange", "lodge/api.ErrMany", "lodge/api.ErrKind", "lodge/api.ErrEnd", "lodge/api.ErrRoom", "lodge/api.ErrNone", "lodge/api.ErrAlias", "lodge/api.ErrCost", "lodge/api.ErrJump", "lodge/api.ErrCycle", "lodge/api.ErrFuel", "lodge/api.ErrFull", "lodge/api.ErrQuota", "lodge/api.ErrCap", "lodge/api.ErrStale", "lodge/api.ErrTag", "lodge/api.ErrOld", "lodge/api.ErrTenant", "lodge/api.ErrWord", "lodge/api.ErrNumber"], apart := false, laid := [("lodge/api.ErrShape", laid_lodge_api_ErrShape), ("lodge/api.ErrRange", laid_lodge_api_ErrRange), ("lodge/api.ErrKind", laid_lodge_api_ErrKind), ("lodge/api.ErrMany", laid_lodge_api_ErrMany), ("lodge/api.ErrEnd", laid_lodge_api_ErrEnd), ("lodge/api.ErrRoom", laid_lodge_api_ErrRoom), ("lodge/api.ErrNone", laid_lodge_api_ErrNone), ("lodge/api.ErrAlias", laid_lodge_api_ErrAlias), ("lodge/api.ErrCost", laid_lodge_api_ErrCost), ("lodge/api.ErrJump", laid_lodge_api_ErrJump), ("lodge/api.ErrCycle", laid_lodge_api_ErrCycle), ("lodge/api.ErrFuel", laid_lodge_api_ErrFuel), ("lodge/api.ErrFull", laid_lodge_api_ErrFull), ("lodge/api.ErrQuota", laid_lodge_api_ErrQuota), ("lodge/api.ErrCap", laid_lodge_api_ErrCap), ("lodge/api.ErrStale", laid_lodge_api_ErrStale), ("lodge/api.ErrTag", laid_lodge_api_ErrTag), ("lodge/api.ErrOld", laid_lodge_api_ErrOld), ("lodge/api.ErrTenant", laid_lodge_api_ErrTenant), ("lodge/api.ErrWord", laid_lodge_api_ErrWord), ("lodge/api.ErrNumber", laid_lodge_api_ErrNumber)], narrowed := true }
def PoolSaysUptoSaid : Prop := poolSaysUptoRow.holds Tryd.pinned (OpenSpec.upto poolSaysSpec)

/-- 'lodgelaw6.TensRows', WHERE WHAT IT READS IS OF BULK AT MOST 1048576: true; the input reads as it did. -/
def tensRowsUptoRow : OpenClaim := { program := "ytgifehmpgcenjaadoor", sum := "203828e8c573d4b20d9ba5a2a3542f98b45fab39d3e90fbc5f2dfa853a1e0701", func := "lodge/lodgelaw6.TensRows", spec := "tensRows", named := ["lodge/api.ErrShape", "lodge/api.ErrRange", "lodge/api.ErrMany"], apart := false, laid := [("lodge/api.ErrShape", laid_lodge_api_ErrShape), ("lodge/api.ErrRange", laid_lodge_api_ErrRange), ("lodge/api.ErrMany", laid_lodge_api_ErrMany)], narrowed := true }
def TensRowsUptoSaid : Prop := tensRowsUptoRow.holds Tryd.pinned (OpenSpec.upto tensRowsSpec)

/-- 'lodgelaw6.TensSays', WHERE WHAT IT READS IS OF BULK AT MOST 1048576: true; the input reads as it did. -/
def tensSaysUptoRow : OpenClaim := { program := "ytgifehmpgcenjaadoor", sum := "203828e8c573d4b20d9ba5a2a3542f98b45fab39d3e90fbc5f2dfa853a1e0701", func := "lodge/lodgelaw6.TensSays", spec := "tensSays", named := ["lodge/api.ErrShape", "lodge/api.ErrRange", "lodge/api.ErrMany", "lodge/api.ErrKind", "lodge/api.ErrEnd", "lodge/api.ErrRoom", "lodge/api.ErrNone", "lodge/api.ErrAlias", "lodge/api.ErrCost", "lodge/api.ErrJump", "lodge/api.ErrCycle", "lodge/api.ErrFuel", "lodge/api.ErrFull", "lodge/api.ErrQuota", "lodge/api.ErrCap", "lodge/api.ErrStale", "lodge/api.ErrTag", "lodge/api.ErrOld", "lodge/api.ErrTenant", "lodge/api.ErrWord", "lodge/api.ErrNumber"], apart := false, laid := [("lodge/api.ErrShape", laid_lodge_api_ErrShape), ("lodge/api.ErrRange", laid_lodge_api_ErrRange), ("lodge/api.ErrKind", laid_lodge_api_ErrKind), ("lodge/api.ErrMany", laid_lodge_api_ErrMany), ("lodge/api.ErrEnd", laid_lodge_api_ErrEnd), ("lodge/api.ErrRoom", laid_lodge_api_ErrRoom), ("lodge/api.ErrNone", laid_lodge_api_ErrNone), ("lodge/api.ErrAlias", laid_lodge_api_ErrAlias), ("lodge/api.ErrCost", laid_lodge_api_ErrCost), ("lodge/api.ErrJump", laid_lodge_api_ErrJump), ("lodge/api.ErrCycle", laid_lodge_api_ErrCycle), ("lodge/api.ErrFuel", laid_lodge_api_ErrFuel), ("lodge/api.ErrFull", laid_lodge_api_ErrFull), ("lodge/api.ErrQuota", laid_lodge_api_ErrQuota), ("lodge/api.ErrCap", laid_lodge_api_ErrCap), ("lodge/api.ErrStale", laid_lodge_api_ErrStale), ("lodge/api.ErrTag", laid_lodge_api_ErrTag), ("lodge/api.ErrOld", laid_lodge_api_ErrOld), ("lodge/api.ErrTenant", laid_lodge_api_ErrTenant), ("lodge/api.ErrWord", laid_lodge_api_ErrWord), ("lodge/api.ErrNumber", laid_lodge_api_ErrNumber)], narrowed := true }
def TensSaysUptoSaid : Prop := tensSaysUptoRow.holds Tryd.pinned (OpenSpec.upto tensSaysSpec)

/-- 'lodgelaw6.TensBytes', WHERE WHAT IT READS IS OF BULK AT MOST 1048576: true; the input reads as it did. -/
def tensBytesUptoRow : OpenClaim := { program := "ytgifehmpgcenjaadoor", sum := "203828e8c573d4b20d9ba5a2a3542f98b45fab39d3e90fbc5f2dfa853a1e0701", func := "lodge/lodgelaw6.TensBytes", spec := "tensBytes", named := ["lodge/api.ErrShape", "lodge/api.ErrRange", "lodge/api.ErrMany", "lodge/api.ErrEnd", "lodge/api.ErrKind", "lodge/api.ErrRoom", "lodge/api.ErrNone", "lodge/api.ErrAlias", "lodge/api.ErrCost", "lodge/api.ErrJump", "lodge/api.ErrCycle", "lodge/api.ErrFuel", "lodge/api.ErrFull", "lodge/api.ErrQuota", "lodge/api.ErrCap", "lodge/api.ErrStale", "lodge/api.ErrTag", "lodge/api.ErrOld", "lodge/api.ErrTenant", "lodge/api.ErrWord", "lodge/api.ErrNumber"], apart := false, laid := [("lodge/api.ErrShape", laid_lodge_api_ErrShape), ("lodge/api.ErrRange", laid_lodge_api_ErrRange), ("lodge/api.ErrKind", laid_lodge_api_ErrKind), ("lodge/api.ErrMany", laid_lodge_api_ErrMany), ("lodge/api.ErrEnd", laid_lodge_api_ErrEnd), ("lodge/api.ErrRoom", laid_lodge_api_ErrRoom), ("lodge/api.ErrNone", laid_lodge_api_ErrNone), ("lodge/api.ErrAlias", laid_lodge_api_ErrAlias), ("lodge/api.ErrCost", laid_lodge_api_ErrCost), ("lodge/api.ErrJump", laid_lodge_api_ErrJump), ("lodge/api.ErrCycle", laid_lodge_api_ErrCycle), ("lodge/api.ErrFuel", laid_lodge_api_ErrFuel), ("lodge/api.ErrFull", laid_lodge_api_ErrFull), ("lodge/api.ErrQuota", laid_lodge_api_ErrQuota), ("lodge/api.ErrCap", laid_lodge_api_ErrCap), ("lodge/api.ErrStale", laid_lodge_api_ErrStale), ("lodge/api.ErrTag", laid_lodge_api_ErrTag), ("lodge/api.ErrOld", laid_lodge_api_ErrOld), ("lodge/api.ErrTenant", laid_lodge_api_ErrTenant), ("lodge/api.ErrWord", laid_lodge_api_ErrWord), ("lodge/api.ErrNumber", laid_lodge_api_ErrNumber)], narrowed := true }
def TensBytesUptoSaid : Prop := tensBytesUptoRow.holds Tryd.pinned (OpenSpec.upto tensBytesSpec)

/-- 'lodgelaw6.TensBack', WHERE WHAT IT READS IS OF BULK AT MOST 1048576: true; the input reads as it did. -/
def tensBackUptoRow : OpenClaim := { program := "ytgifehmpgcenjaadoor", sum := "203828e8c573d4b20d9ba5a2a3542f98b45fab39d3e90fbc5f2dfa853a1e0701", func := "lodge/lodgelaw6.TensBack", spec := "tensBack", named := ["lodge/api.ErrShape", "lodge/api.ErrRange", "lodge/api.ErrMany", "lodge/api.ErrEnd", "lodge/api.ErrKind", "lodge/api.ErrRoom", "lodge/api.ErrNone", "lodge/api.ErrAlias", "lodge/api.ErrCost", "lodge/api.ErrJump", "lodge/api.ErrCycle", "lodge/api.ErrFuel", "lodge/api.ErrFull", "lodge/api.ErrQuota", "lodge/api.ErrCap", "lodge/api.ErrStale", "lodge/api.ErrTag", "lodge/api.ErrOld", "lodge/api.ErrTenant", "lodge/api.ErrWord", "lodge/api.ErrNumber"], apart := false, laid := [("lodge/api.ErrShape", laid_lodge_api_ErrShape), ("lodge/api.ErrRange", laid_lodge_api_ErrRange), ("lodge/api.ErrKind", laid_lodge_api_ErrKind), ("lodge/api.ErrMany", laid_lodge_api_ErrMany), ("lodge/api.ErrEnd", laid_lodge_api_ErrEnd), ("lodge/api.ErrRoom", laid_lodge_api_ErrRoom), ("lodge/api.ErrNone", laid_lodge_api_ErrNone), ("lodge/api.ErrAlias", laid_lodge_api_ErrAlias), ("lodge/api.ErrCost", laid_lodge_api_ErrCost), ("lodge/api.ErrJump", laid_lodge_api_ErrJump), ("lodge/api.ErrCycle", laid_lodge_api_ErrCycle), ("lodge/api.ErrFuel", laid_lodge_api_ErrFuel), ("lodge/api.ErrFull", laid_lodge_api_ErrFull), ("lodge/api.ErrQuota", laid_lodge_api_ErrQuota), ("lodge/api.ErrCap", laid_lodge_api_ErrCap), ("lodge/api.ErrStale", laid_lodge_api_ErrStale), ("lodge/api.ErrTag", laid_lodge_api_ErrTag), ("lodge/api.ErrOld", laid_lodge_api_ErrOld), ("lodge/api.ErrTenant", laid_lodge_api_ErrTenant), ("lodge/api.ErrWord", laid_lodge_api_ErrWord), ("lodge/api.ErrNumber", laid_lodge_api_ErrNumber)], narrowed := true }
def TensBackUptoSaid : Prop := tensBackUptoRow.holds Tryd.pinned (OpenSpec.upto tensBackSpec)

/-- 'lodgelaw5.ShapeSays', WHERE WHAT IT READS IS OF BULK AT MOST 1048576: true; the input reads as it did. -/
def shapeSaysUptoRow : OpenClaim := { program := "ytgifehmpgcenjaadoor", sum := "203828e8c573d4b20d9ba5a2a3542f98b45fab39d3e90fbc5f2dfa853a1e0701", func := "lodge/lodgelaw5.ShapeSays", spec := "shapeSays", inPlace := ["internal/abi.NoEscape", "internal/bytealg.MakeNoZero"], named := ["lodge/api.ErrMany", "lodge/api.ErrRange", "lodge/api.ErrShape", "lodge/api.ErrKind", "lodge/api.ErrEnd", "lodge/api.ErrRoom", "lodge/api.ErrNone", "lodge/api.ErrAlias", "lodge/api.ErrCost", "lodge/api.ErrJump", "lodge/api.ErrCycle", "lodge/api.ErrFuel", "lodge/api.ErrFull", "lodge/api.ErrQuota", "lodge/api.ErrCap", "lodge/api.ErrStale", "lodge/api.ErrTag", "lodge/api.ErrOld", "lodge/api.ErrTenant", "lodge/api.ErrWord", "lodge/api.ErrNumber", "internal/strconv.uint64pow10", "math/bits.deBruijn32tab", "math/bits.deBruijn64tab"], apart := false, laid := [("math/bits.deBruijn32tab", laid_math_bits_deBruijn32tab), ("math/bits.deBruijn64tab", laid_math_bits_deBruijn64tab), ("internal/strconv.uint64pow10", laid_internal_strconv_uint64pow10), ("lodge/api.ErrShape", laid_lodge_api_ErrShape), ("lodge/api.ErrRange", laid_lodge_api_ErrRange), ("lodge/api.ErrKind", laid_lodge_api_ErrKind), ("lodge/api.ErrMany", laid_lodge_api_ErrMany), ("lodge/api.ErrEnd", laid_lodge_api_ErrEnd), ("lodge/api.ErrRoom", laid_lodge_api_ErrRoom), ("lodge/api.ErrNone", laid_lodge_api_ErrNone), ("lodge/api.ErrAlias", laid_lodge_api_ErrAlias), ("lodge/api.ErrCost", laid_lodge_api_ErrCost), ("lodge/api.ErrJump", laid_lodge_api_ErrJump), ("lodge/api.ErrCycle", laid_lodge_api_ErrCycle), ("lodge/api.ErrFuel", laid_lodge_api_ErrFuel), ("lodge/api.ErrFull", laid_lodge_api_ErrFull), ("lodge/api.ErrQuota", laid_lodge_api_ErrQuota), ("lodge/api.ErrCap", laid_lodge_api_ErrCap), ("lodge/api.ErrStale", laid_lodge_api_ErrStale), ("lodge/api.ErrTag", laid_lodge_api_ErrTag), ("lodge/api.ErrOld", laid_lodge_api_ErrOld), ("lodge/api.ErrTenant", laid_lodge_api_ErrTenant), ("lodge/api.ErrWord", laid_lodge_api_ErrWord), ("lodge/api.ErrNumber", laid_lodge_api_ErrNumber)], narrowed := true }
def ShapeSaysUptoSaid : Prop := shapeSaysUptoRow.holds Tryd.pinned (OpenSpec.upto shapeSaysSpec)

end Rows
end Go.Proofs.YtgifehmpgcenjaaDoor
