/-
  NARROWER THAN 'FOR EVERY INPUT', by the rows' own cells (each row's printed sentence says how): QuantFixed: laid · QuantShifts: laid · QuantTells: laid · FltHalves: laid · FltRounds: laid · FltKinds: laid · FltSums: laid · QuantNears: laid · FltBytes: laid · QuantScales: laid · QuantEdges: laid · FltParts: laid · FltSmall: laid · FltGreat: laid · FltPowers: laid · QuantFits: laid · QuantSpans: laid · FltOrder: laid · FltSorts: laid.
  DERIVED. THE GIVEN ROWS OF THIS SEAT. 19 by the template 'for every input the law returns true; each argument reads behind the call as it read before'; 0 by the template 'total and deterministic' (their statements: YtcpfangcibilaaaDoorTotals.lean).
  GIVEN WITH THE SEED: the statements are not yours to turn. If you find one false, say at which input.
  Laid BY PROGRAM, IN A SANDBOX (cutbox-rows.mjs): the forced cells as the released guide's own fill.sh prints them over the translation f0e9fe16ba586c5d… (all of the seat's roots in one cut). By AI agents, Wed Nov 11 2026. No macro, syntax, notation, axiom, sorry.
-/
import Derived.Test.YtcpfangcibilaaaDoorChecked
import GoSem.Claim
import GoSem.ClaimJoined
import GoSem.ClaimMapViews
import Derived.JoinedTies
import Derived.KernelRfl
namespace Go.Proofs.YtcpfangcibilaaaDoor
/- THE CELL 'sum', in the pinned program and in every row, IS THE sha256 OF THE DUMP (.gsa) THAT YtcpfangcibilaaaDoorProg.lean LOADS. Nothing in Lean hashes anything: it is a label: what it is worth is what the hold of that sum in a sandbox is worth. -/
noncomputable def Tryd.pinned : Pinned := { name := "ytcpfangcibilaaadoor", sum := "f0e9fe16ba586c5dc757aed4115a385a24ca09f0728fdb2e119cd7dbf11ee504", checked := Tryd.checked }
namespace Rows
def none {H : Type} : Left H := { results := [], args := [] }

/- WHAT THE LISTED PACKAGE-LEVEL VARIABLES READ AS WHEN THE CALL BEGINS. Each datum BY PROGRAM (the guide's laid-datum.mjs) off the statement by which the dump's own 'gosem.cut.vars' lays the variable. In a bare row this is a premise. The card (YtcpfangcibilaaaDoorCards.lean) ties it to the program's text. -/
def laid_lodge_api_ErrShape {H : Type} : DataW H := .iface "*errors.errorString" (.ptr (.agg [.lit (.string [110, 111, 116, 32, 116, 104, 101, 32, 115, 104, 97, 112, 101, 32, 116, 104, 97, 116, 32, 105, 116, 32, 104, 97, 115, 32, 116, 111, 32, 104, 97, 118, 101])]))
def laid_lodge_api_ErrRange {H : Type} : DataW H := .iface "*errors.errorString" (.ptr (.agg [.lit (.string [97, 32, 110, 117, 109, 98, 101, 114, 32, 111, 117, 116, 32, 111, 102, 32, 105, 116, 115, 32, 114, 97, 110, 103, 101])]))
def laid_lodge_api_ErrKind {H : Type} : DataW H := .iface "*errors.errorString" (.ptr (.agg [.lit (.string [110, 111, 32, 115, 117, 99, 104, 32, 107, 105, 110, 100])]))
def laid_lodge_api_ErrMany {H : Type} : DataW H := .iface "*errors.errorString" (.ptr (.agg [.lit (.string [116, 111, 111, 32, 109, 97, 110, 121])]))
def laid_lodge_api_ErrEnd {H : Type} : DataW H := .iface "*errors.errorString" (.ptr (.agg [.lit (.string [105, 116, 32, 101, 110, 100, 115, 32, 116, 111, 111, 32, 101, 97, 114, 108, 121])]))
def laid_lodge_api_ErrRoom {H : Type} : DataW H := .iface "*errors.errorString" (.ptr (.agg [.lit (.string [116, 104, 101, 114, 101, 32, 105, 115, 32, 110, 111, 32, 114, 111, 111, 109])]))
def laid_lodge_api_ErrNone {H : Type} : DataW H := .iface "*errors.errorString" (.ptr (.agg [.lit (.string [116, 104, 101, 114, 101, 32, 105, 115, 32, 110, 111, 110, 101])]))
def laid_lodge_api_ErrAlias {H : Type} : DataW H := .iface "*errors.errorString" (.ptr (.agg [.lit (.string [105, 116, 32, 108, 105, 101, 115, 32, 111, 118, 101, 114, 32, 119, 104, 97, 116, 32, 105, 115, 32, 114, 101, 97, 100])]))
def laid_lodge_api_ErrCost {H : Type} : DataW H := .iface "*errors.errorString" (.ptr (.agg [.lit (.string [105, 116, 32, 99, 111, 115, 116, 115, 32, 116, 111, 111, 32, 109, 117, 99, 104])]))
def laid_lodge_api_ErrJump {H : Type} : DataW H := .iface "*errors.errorString" (.ptr (.agg [.lit (.string [105, 116, 32, 103, 111, 101, 115, 32, 119, 104, 101, 114, 101, 32, 116, 104, 101, 114, 101, 32, 105, 115, 32, 110, 111, 116, 104, 105, 110, 103])]))
def laid_lodge_api_ErrCycle {H : Type} : DataW H := .iface "*errors.errorString" (.ptr (.agg [.lit (.string [105, 116, 32, 103, 111, 101, 115, 32, 114, 111, 117, 110, 100, 32, 105, 110, 32, 97, 32, 114, 105, 110, 103])]))
def laid_lodge_api_ErrFuel {H : Type} : DataW H := .iface "*errors.errorString" (.ptr (.agg [.lit (.string [110, 111, 32, 102, 117, 101, 108, 32, 105, 115, 32, 108, 101, 102, 116])]))
def laid_lodge_api_ErrFull {H : Type} : DataW H := .iface "*errors.errorString" (.ptr (.agg [.lit (.string [116, 104, 101, 32, 113, 117, 101, 117, 101, 32, 105, 115, 32, 102, 117, 108, 108])]))
def laid_lodge_api_ErrQuota {H : Type} : DataW H := .iface "*errors.errorString" (.ptr (.agg [.lit (.string [98, 101, 121, 111, 110, 100, 32, 116, 104, 101, 32, 113, 117, 111, 116, 97])]))
def laid_lodge_api_ErrCap {H : Type} : DataW H := .iface "*errors.errorString" (.ptr (.agg [.lit (.string [110, 111, 32, 115, 117, 99, 104, 32, 114, 105, 103, 104, 116])]))
def laid_lodge_api_ErrStale {H : Type} : DataW H := .iface "*errors.errorString" (.ptr (.agg [.lit (.string [111, 102, 32, 97, 110, 32, 101, 108, 100, 101, 114, 32, 103, 101, 110, 101, 114, 97, 116, 105, 111, 110])]))
def laid_lodge_api_ErrTag {H : Type} : DataW H := .iface "*errors.errorString" (.ptr (.agg [.lit (.string [116, 104, 101, 32, 116, 97, 103, 32, 105, 115, 32, 97, 110, 111, 116, 104, 101, 114, 32, 111, 110, 101])]))
def laid_lodge_api_ErrOld {H : Type} : DataW H := .iface "*errors.errorString" (.ptr (.agg [.lit (.string [97, 32, 99, 111, 117, 110, 116, 101, 114, 32, 116, 104, 97, 116, 32, 105, 115, 32, 110, 111, 116, 32, 97, 98, 111, 118, 101, 32, 116, 104, 101, 32, 108, 97, 115, 116, 32, 111, 110, 101])]))
def laid_lodge_api_ErrTenant {H : Type} : DataW H := .iface "*errors.errorString" (.ptr (.agg [.lit (.string [110, 111, 32, 115, 117, 99, 104, 32, 116, 101, 110, 97, 110, 116])]))
def laid_lodge_api_ErrWord {H : Type} : DataW H := .iface "*errors.errorString" (.ptr (.agg [.lit (.string [110, 111, 32, 115, 117, 99, 104, 32, 119, 111, 114, 100])]))
def laid_lodge_api_ErrNumber {H : Type} : DataW H := .iface "*errors.errorString" (.ptr (.agg [.lit (.string [110, 111, 32, 115, 117, 99, 104, 32, 110, 117, 109, 98, 101, 114])]))
def laid_math_bits_deBruijn64tab {H : Type} : DataW H := .agg [.lit (.int .u8 0), .lit (.int .u8 1), .lit (.int .u8 56), .lit (.int .u8 2), .lit (.int .u8 57), .lit (.int .u8 49), .lit (.int .u8 28), .lit (.int .u8 3), .lit (.int .u8 61), .lit (.int .u8 58), .lit (.int .u8 42), .lit (.int .u8 50), .lit (.int .u8 38), .lit (.int .u8 29), .lit (.int .u8 17), .lit (.int .u8 4), .lit (.int .u8 62), .lit (.int .u8 47), .lit (.int .u8 59), .lit (.int .u8 36), .lit (.int .u8 45), .lit (.int .u8 43), .lit (.int .u8 51), .lit (.int .u8 22), .lit (.int .u8 53), .lit (.int .u8 39), .lit (.int .u8 33), .lit (.int .u8 30), .lit (.int .u8 24), .lit (.int .u8 18), .lit (.int .u8 12), .lit (.int .u8 5), .lit (.int .u8 63), .lit (.int .u8 55), .lit (.int .u8 48), .lit (.int .u8 27), .lit (.int .u8 60), .lit (.int .u8 41), .lit (.int .u8 37), .lit (.int .u8 16), .lit (.int .u8 46), .lit (.int .u8 35), .lit (.int .u8 44), .lit (.int .u8 21), .lit (.int .u8 52), .lit (.int .u8 32), .lit (.int .u8 23), .lit (.int .u8 11), .lit (.int .u8 54), .lit (.int .u8 26), .lit (.int .u8 40), .lit (.int .u8 15), .lit (.int .u8 34), .lit (.int .u8 20), .lit (.int .u8 31), .lit (.int .u8 10), .lit (.int .u8 25), .lit (.int .u8 14), .lit (.int .u8 19), .lit (.int .u8 9), .lit (.int .u8 13), .lit (.int .u8 8), .lit (.int .u8 7), .lit (.int .u8 6)]

/-- 'lodgelaw4.QuantFixed': WHATEVER THE INPUT: true; the input reads as it did. -/
def quantFixedSpec : ChangeSpec := { name := "quantFixed", fn := fun _ => fun
  | [d1, d2, d3, d4, d5] => { results := [.lit (.bool true)], args := [d1, d2, d3, d4, d5] }
  | _ => none }
def quantFixedRow : OpenClaim := { program := "ytcpfangcibilaaadoor", sum := "f0e9fe16ba586c5dc757aed4115a385a24ca09f0728fdb2e119cd7dbf11ee504", func := "lodge/lodgelaw4.QuantFixed", spec := "quantFixed", inPlace := ["math.Float64bits", "math.Float64frombits", "math.RoundToEven"], named := ["lodge/api.ErrRange", "lodge/api.ErrShape", "lodge/api.ErrKind", "lodge/api.ErrMany", "lodge/api.ErrEnd", "lodge/api.ErrRoom", "lodge/api.ErrNone", "lodge/api.ErrAlias", "lodge/api.ErrCost", "lodge/api.ErrJump", "lodge/api.ErrCycle", "lodge/api.ErrFuel", "lodge/api.ErrFull", "lodge/api.ErrQuota", "lodge/api.ErrCap", "lodge/api.ErrStale", "lodge/api.ErrTag", "lodge/api.ErrOld", "lodge/api.ErrTenant", "lodge/api.ErrWord", "lodge/api.ErrNumber"], apart := false, laid := [("lodge/api.ErrShape", laid_lodge_api_ErrShape), ("lodge/api.ErrRange", laid_lodge_api_ErrRange), ("lodge/api.ErrKind", laid_lodge_api_ErrKind), ("lodge/api.ErrMany", laid_lodge_api_ErrMany), ("lodge/api.ErrEnd", laid_lodge_api_ErrEnd), ("lodge/api.ErrRoom", laid_lodge_api_ErrRoom), ("lodge/api.ErrNone", laid_lodge_api_ErrNone), ("lodge/api.ErrAlias", laid_lodge_api_ErrAlias), ("lodge/api.ErrCost", laid_lodge_api_ErrCost), ("lodge/api.ErrJump", laid_lodge_api_ErrJump), ("lodge/api.ErrCycle", laid_lodge_api_ErrCycle), ("lodge/api.ErrFuel", laid_lodge_api_ErrFuel), ("lodge/api.ErrFull", laid_lodge_api_ErrFull), ("lodge/api.ErrQuota", laid_lodge_api_ErrQuota), ("lodge/api.ErrCap", laid_lodge_api_ErrCap), ("lodge/api.ErrStale", laid_lodge_api_ErrStale), ("lodge/api.ErrTag", laid_lodge_api_ErrTag), ("lodge/api.ErrOld", laid_lodge_api_ErrOld), ("lodge/api.ErrTenant", laid_lodge_api_ErrTenant), ("lodge/api.ErrWord", laid_lodge_api_ErrWord), ("lodge/api.ErrNumber", laid_lodge_api_ErrNumber)] }
def QuantFixedSaid : Prop := quantFixedRow.holds Tryd.pinned (OpenSpec.ofChange quantFixedSpec)

/-- ITS FALSE NEIGHBOUR: 'it returns false'. Refute it at one input. -/
def quantFixedWrong : ChangeSpec := { name := "quantFixed", fn := fun _ => fun
  | [d1, d2, d3, d4, d5] => { results := [.lit (.bool false)], args := [d1, d2, d3, d4, d5] }
  | _ => none }
def QuantFixedWrongFalsely : Prop := quantFixedRow.holds Tryd.pinned (OpenSpec.ofChange quantFixedWrong)

/-- 'lodgelaw4.QuantShifts': WHATEVER THE INPUT: true; the input reads as it did. -/
def quantShiftsSpec : ChangeSpec := { name := "quantShifts", fn := fun _ => fun
  | [d1, d2, d3, d4] => { results := [.lit (.bool true)], args := [d1, d2, d3, d4] }
  | _ => none }
def quantShiftsRow : OpenClaim := { program := "ytcpfangcibilaaadoor", sum := "f0e9fe16ba586c5dc757aed4115a385a24ca09f0728fdb2e119cd7dbf11ee504", func := "lodge/lodgelaw4.QuantShifts", spec := "quantShifts", inPlace := ["math.Float64bits", "math.Float64frombits", "math.RoundToEven"], named := ["lodge/api.ErrRange"], apart := false, laid := [("lodge/api.ErrRange", laid_lodge_api_ErrRange)] }
def QuantShiftsSaid : Prop := quantShiftsRow.holds Tryd.pinned (OpenSpec.ofChange quantShiftsSpec)

/-- ITS FALSE NEIGHBOUR: 'it returns false'. Refute it at one input. -/
def quantShiftsWrong : ChangeSpec := { name := "quantShifts", fn := fun _ => fun
  | [d1, d2, d3, d4] => { results := [.lit (.bool false)], args := [d1, d2, d3, d4] }
  | _ => none }
def QuantShiftsWrongFalsely : Prop := quantShiftsRow.holds Tryd.pinned (OpenSpec.ofChange quantShiftsWrong)

/-- 'lodgelaw4.QuantTells': WHATEVER THE INPUT: true; the input reads as it did. -/
def quantTellsSpec : ChangeSpec := { name := "quantTells", fn := fun _ => fun
  | [d] => { results := [.lit (.bool true)], args := [d] }
  | _ => none }
def quantTellsRow : OpenClaim := { program := "ytcpfangcibilaaadoor", sum := "f0e9fe16ba586c5dc757aed4115a385a24ca09f0728fdb2e119cd7dbf11ee504", func := "lodge/lodgelaw4.QuantTells", spec := "quantTells", inPlace := ["math.Float64bits", "math.Float64frombits", "math.RoundToEven"], named := ["lodge/api.ErrRange"], apart := false, laid := [("lodge/api.ErrRange", laid_lodge_api_ErrRange)] }
def QuantTellsSaid : Prop := quantTellsRow.holds Tryd.pinned (OpenSpec.ofChange quantTellsSpec)

/-- ITS FALSE NEIGHBOUR: 'it returns false'. Refute it at one input. -/
def quantTellsWrong : ChangeSpec := { name := "quantTells", fn := fun _ => fun
  | [d] => { results := [.lit (.bool false)], args := [d] }
  | _ => none }
def QuantTellsWrongFalsely : Prop := quantTellsRow.holds Tryd.pinned (OpenSpec.ofChange quantTellsWrong)

/-- 'lodgelaw3.FltHalves': WHATEVER THE INPUT: true; the input reads as it did. -/
def fltHalvesSpec : ChangeSpec := { name := "fltHalves", fn := fun _ => fun
  | [d1, d2] => { results := [.lit (.bool true)], args := [d1, d2] }
  | _ => none }
def fltHalvesRow : OpenClaim := { program := "ytcpfangcibilaaadoor", sum := "f0e9fe16ba586c5dc757aed4115a385a24ca09f0728fdb2e119cd7dbf11ee504", func := "lodge/lodgelaw3.FltHalves", spec := "fltHalves", inPlace := ["math.Float64bits", "math.Float64frombits", "math.RoundToEven"], named := ["math/bits.deBruijn64tab"], apart := false, laid := [("math/bits.deBruijn64tab", laid_math_bits_deBruijn64tab)] }
def FltHalvesSaid : Prop := fltHalvesRow.holds Tryd.pinned (OpenSpec.ofChange fltHalvesSpec)

/-- ITS FALSE NEIGHBOUR: 'it returns false'. Refute it at one input. -/
def fltHalvesWrong : ChangeSpec := { name := "fltHalves", fn := fun _ => fun
  | [d1, d2] => { results := [.lit (.bool false)], args := [d1, d2] }
  | _ => none }
def FltHalvesWrongFalsely : Prop := fltHalvesRow.holds Tryd.pinned (OpenSpec.ofChange fltHalvesWrong)

/-- 'lodgelaw3.FltRounds': WHATEVER THE INPUT: true; the input reads as it did. -/
def fltRoundsSpec : ChangeSpec := { name := "fltRounds", fn := fun _ => fun
  | [d1, d2, d3] => { results := [.lit (.bool true)], args := [d1, d2, d3] }
  | _ => none }
def fltRoundsRow : OpenClaim := { program := "ytcpfangcibilaaadoor", sum := "f0e9fe16ba586c5dc757aed4115a385a24ca09f0728fdb2e119cd7dbf11ee504", func := "lodge/lodgelaw3.FltRounds", spec := "fltRounds", inPlace := ["math.Float64bits", "math.Float64frombits", "math.RoundToEven"], named := ["math/bits.deBruijn64tab"], apart := false, laid := [("math/bits.deBruijn64tab", laid_math_bits_deBruijn64tab)] }
def FltRoundsSaid : Prop := fltRoundsRow.holds Tryd.pinned (OpenSpec.ofChange fltRoundsSpec)

/-- ITS FALSE NEIGHBOUR: 'it returns false'. Refute it at one input. -/
def fltRoundsWrong : ChangeSpec := { name := "fltRounds", fn := fun _ => fun
  | [d1, d2, d3] => { results := [.lit (.bool false)], args := [d1, d2, d3] }
  | _ => none }
def FltRoundsWrongFalsely : Prop := fltRoundsRow.holds Tryd.pinned (OpenSpec.ofChange fltRoundsWrong)

/-- 'lodgelaw3.FltKinds': WHATEVER THE INPUT: true; the input reads as it did. -/
def fltKindsSpec : ChangeSpec := { name := "fltKinds", fn := fun _ => fun
  | [d1, d2] => { results := [.lit (.bool true)], args := [d1, d2] }
  | _ => none }
def fltKindsRow : OpenClaim := { program := "ytcpfangcibilaaadoor", sum := "f0e9fe16ba586c5dc757aed4115a385a24ca09f0728fdb2e119cd7dbf11ee504", func := "lodge/lodgelaw3.FltKinds", spec := "fltKinds", inPlace := ["math.Float64bits", "math.Float64frombits", "math.RoundToEven"], named := ["math/bits.deBruijn64tab"], apart := false, laid := [("math/bits.deBruijn64tab", laid_math_bits_deBruijn64tab)] }
def FltKindsSaid : Prop := fltKindsRow.holds Tryd.pinned (OpenSpec.ofChange fltKindsSpec)

/-- ITS FALSE NEIGHBOUR: 'it returns false'. Refute it at one input. -/
def fltKindsWrong : ChangeSpec := { name := "fltKinds", fn := fun _ => fun
  | [d1, d2] => { results := [.lit (.bool false)], args := [d1, d2] }
  | _ => none }
def FltKindsWrongFalsely : Prop := fltKindsRow.holds Tryd.pinned (OpenSpec.ofChange fltKindsWrong)

/-- 'lodgelaw3.FltSums': WHATEVER THE INPUT: true; the input reads as it did. -/
def fltSumsSpec : ChangeSpec := { name := "fltSums", fn := fun _ => fun
  | [d1, d2] => { results := [.lit (.bool true)], args := [d1, d2] }
  | _ => none }
def fltSumsRow : OpenClaim := { program := "ytcpfangcibilaaadoor", sum := "f0e9fe16ba586c5dc757aed4115a385a24ca09f0728fdb2e119cd7dbf11ee504", func := "lodge/lodgelaw3.FltSums", spec := "fltSums", inPlace := ["math.Float64bits", "math.Float64frombits", "math.RoundToEven"], named := ["math/bits.deBruijn64tab"], apart := false, laid := [("math/bits.deBruijn64tab", laid_math_bits_deBruijn64tab)] }
def FltSumsSaid : Prop := fltSumsRow.holds Tryd.pinned (OpenSpec.ofChange fltSumsSpec)

/-- ITS FALSE NEIGHBOUR: 'it returns false'. Refute it at one input. -/
def fltSumsWrong : ChangeSpec := { name := "fltSums", fn := fun _ => fun
  | [d1, d2] => { results := [.lit (.bool false)], args := [d1, d2] }
  | _ => none }
def FltSumsWrongFalsely : Prop := fltSumsRow.holds Tryd.pinned (OpenSpec.ofChange fltSumsWrong)

/-- 'lodgelaw4.QuantNears': WHATEVER THE INPUT: true; the input reads as it did. -/
def quantNearsSpec : ChangeSpec := { name := "quantNears", fn := fun _ => fun
  | [d1, d2, d3, d4] => { results := [.lit (.bool true)], args := [d1, d2, d3, d4] }
  | _ => none }
def quantNearsRow : OpenClaim := { program := "ytcpfangcibilaaadoor", sum := "f0e9fe16ba586c5dc757aed4115a385a24ca09f0728fdb2e119cd7dbf11ee504", func := "lodge/lodgelaw4.QuantNears", spec := "quantNears", inPlace := ["math.Float64bits", "math.Float64frombits", "math.RoundToEven"], named := ["lodge/api.ErrRange"], apart := false, laid := [("lodge/api.ErrRange", laid_lodge_api_ErrRange)] }
def QuantNearsSaid : Prop := quantNearsRow.holds Tryd.pinned (OpenSpec.ofChange quantNearsSpec)

/-- ITS FALSE NEIGHBOUR: 'it returns false'. Refute it at one input. -/
def quantNearsWrong : ChangeSpec := { name := "quantNears", fn := fun _ => fun
  | [d1, d2, d3, d4] => { results := [.lit (.bool false)], args := [d1, d2, d3, d4] }
  | _ => none }
def QuantNearsWrongFalsely : Prop := quantNearsRow.holds Tryd.pinned (OpenSpec.ofChange quantNearsWrong)

/-- 'lodgelaw3.FltBytes': WHATEVER THE INPUT: true; the input reads as it did. -/
def fltBytesSpec : ChangeSpec := { name := "fltBytes", fn := fun _ => fun
  | [d1, d2] => { results := [.lit (.bool true)], args := [d1, d2] }
  | _ => none }
def fltBytesRow : OpenClaim := { program := "ytcpfangcibilaaadoor", sum := "f0e9fe16ba586c5dc757aed4115a385a24ca09f0728fdb2e119cd7dbf11ee504", func := "lodge/lodgelaw3.FltBytes", spec := "fltBytes", inPlace := ["math.Float64bits", "math.Float64frombits", "math.RoundToEven"], named := ["math/bits.deBruijn64tab", "lodge/api.ErrEnd", "lodge/api.ErrMany", "lodge/api.ErrShape", "lodge/api.ErrRange", "lodge/api.ErrKind", "lodge/api.ErrRoom", "lodge/api.ErrNone", "lodge/api.ErrAlias", "lodge/api.ErrCost", "lodge/api.ErrJump", "lodge/api.ErrCycle", "lodge/api.ErrFuel", "lodge/api.ErrFull", "lodge/api.ErrQuota", "lodge/api.ErrCap", "lodge/api.ErrStale", "lodge/api.ErrTag", "lodge/api.ErrOld", "lodge/api.ErrTenant", "lodge/api.ErrWord", "lodge/api.ErrNumber"], apart := false, laid := [("math/bits.deBruijn64tab", laid_math_bits_deBruijn64tab), ("lodge/api.ErrShape", laid_lodge_api_ErrShape), ("lodge/api.ErrRange", laid_lodge_api_ErrRange), ("lodge/api.ErrKind", laid_lodge_api_ErrKind), ("lodge/api.ErrMany", laid_lodge_api_ErrMany), ("lodge/api.ErrEnd", laid_lodge_api_ErrEnd), ("lodge/api.ErrRoom", laid_lodge_api_ErrRoom), ("lodge/api.ErrNone", laid_lodge_api_ErrNone), ("lodge/api.ErrAlias", laid_lodge_api_ErrAlias), ("lodge/api.ErrCost", laid_lodge_api_ErrCost), ("lodge/api.ErrJump", laid_lodge_api_ErrJump), ("lodge/api.ErrCycle", laid_lodge_api_ErrCycle), ("lodge/api.ErrFuel", laid_lodge_api_ErrFuel), ("lodge/api.ErrFull", laid_lodge_api_ErrFull), ("lodge/api.ErrQuota", laid_lodge_api_ErrQuota), ("lodge/api.ErrCap", laid_lodge_api_ErrCap), ("lodge/api.ErrStale", laid_lodge_api_ErrStale), ("lodge/api.ErrTag", laid_lodge_api_ErrTag), ("lodge/api.ErrOld", laid_lodge_api_ErrOld), ("lodge/api.ErrTenant", laid_lodge_api_ErrTenant), ("lodge/api.ErrWord", laid_lodge_api_ErrWord), ("lodge/api.ErrNumber", laid_lodge_api_ErrNumber)] }
def FltBytesSaid : Prop := fltBytesRow.holds Tryd.pinned (OpenSpec.ofChange fltBytesSpec)

/-- ITS FALSE NEIGHBOUR: 'it returns false'. Refute it at one input. -/
def fltBytesWrong : ChangeSpec := { name := "fltBytes", fn := fun _ => fun
  | [d1, d2] => { results := [.lit (.bool false)], args := [d1, d2] }
  | _ => none }
def FltBytesWrongFalsely : Prop := fltBytesRow.holds Tryd.pinned (OpenSpec.ofChange fltBytesWrong)

/-- 'lodgelaw4.QuantScales': WHATEVER THE INPUT: true; the input reads as it did. -/
def quantScalesSpec : ChangeSpec := { name := "quantScales", fn := fun _ => fun
  | [d1, d2, d3, d4] => { results := [.lit (.bool true)], args := [d1, d2, d3, d4] }
  | _ => none }
def quantScalesRow : OpenClaim := { program := "ytcpfangcibilaaadoor", sum := "f0e9fe16ba586c5dc757aed4115a385a24ca09f0728fdb2e119cd7dbf11ee504", func := "lodge/lodgelaw4.QuantScales", spec := "quantScales", inPlace := ["math.Float64bits", "math.Float64frombits", "math.RoundToEven"], named := ["lodge/api.ErrRange", "lodge/api.ErrShape", "lodge/api.ErrKind", "lodge/api.ErrMany", "lodge/api.ErrEnd", "lodge/api.ErrRoom", "lodge/api.ErrNone", "lodge/api.ErrAlias", "lodge/api.ErrCost", "lodge/api.ErrJump", "lodge/api.ErrCycle", "lodge/api.ErrFuel", "lodge/api.ErrFull", "lodge/api.ErrQuota", "lodge/api.ErrCap", "lodge/api.ErrStale", "lodge/api.ErrTag", "lodge/api.ErrOld", "lodge/api.ErrTenant", "lodge/api.ErrWord", "lodge/api.ErrNumber"], apart := false, laid := [("lodge/api.ErrShape", laid_lodge_api_ErrShape), ("lodge/api.ErrRange", laid_lodge_api_ErrRange), ("lodge/api.ErrKind", laid_lodge_api_ErrKind), ("lodge/api.ErrMany", laid_lodge_api_ErrMany), ("lodge/api.ErrEnd", laid_lodge_api_ErrEnd), ("lodge/api.ErrRoom", laid_lodge_api_ErrRoom), ("lodge/api.ErrNone", laid_lodge_api_ErrNone), ("lodge/api.ErrAlias", laid_lodge_api_ErrAlias), ("lodge/api.ErrCost", laid_lodge_api_ErrCost), ("lodge/api.ErrJump", laid_lodge_api_ErrJump), ("lodge/api.ErrCycle", laid_lodge_api_ErrCycle), ("lodge/api.ErrFuel", laid_lodge_api_ErrFuel), ("lodge/api.ErrFull", laid_lodge_api_ErrFull), ("lodge/api.ErrQuota", laid_lodge_api_ErrQuota), ("lodge/api.ErrCap", laid_lodge_api_ErrCap), ("lodge/api.ErrStale", laid_lodge_api_ErrStale), ("lodge/api.ErrTag", laid_lodge_api_ErrTag), ("lodge/api.ErrOld", laid_lodge_api_ErrOld), ("lodge/api.ErrTenant", laid_lodge_api_ErrTenant), ("lodge/api.ErrWord", laid_lodge_api_ErrWord), ("lodge/api.ErrNumber", laid_lodge_api_ErrNumber)] }
def QuantScalesSaid : Prop := quantScalesRow.holds Tryd.pinned (OpenSpec.ofChange quantScalesSpec)

/-- ITS FALSE NEIGHBOUR: 'it returns false'. Refute it at one input. -/
def quantScalesWrong : ChangeSpec := { name := "quantScales", fn := fun _ => fun
  | [d1, d2, d3, d4] => { results := [.lit (.bool false)], args := [d1, d2, d3, d4] }
  | _ => none }
def QuantScalesWrongFalsely : Prop := quantScalesRow.holds Tryd.pinned (OpenSpec.ofChange quantScalesWrong)

/-- 'lodgelaw4.QuantEdges': WHATEVER THE INPUT: true; the input reads as it did. -/
def quantEdgesSpec : ChangeSpec := { name := "quantEdges", fn := fun _ => fun
  | [d1, d2] => { results := [.lit (.bool true)], args := [d1, d2] }
  | _ => none }
def quantEdgesRow : OpenClaim := { program := "ytcpfangcibilaaadoor", sum := "f0e9fe16ba586c5dc757aed4115a385a24ca09f0728fdb2e119cd7dbf11ee504", func := "lodge/lodgelaw4.QuantEdges", spec := "quantEdges", inPlace := ["math.Float64bits", "math.Float64frombits", "math.RoundToEven"], named := ["lodge/api.ErrRange", "lodge/api.ErrShape", "lodge/api.ErrKind", "lodge/api.ErrMany", "lodge/api.ErrEnd", "lodge/api.ErrRoom", "lodge/api.ErrNone", "lodge/api.ErrAlias", "lodge/api.ErrCost", "lodge/api.ErrJump", "lodge/api.ErrCycle", "lodge/api.ErrFuel", "lodge/api.ErrFull", "lodge/api.ErrQuota", "lodge/api.ErrCap", "lodge/api.ErrStale", "lodge/api.ErrTag", "lodge/api.ErrOld", "lodge/api.ErrTenant", "lodge/api.ErrWord", "lodge/api.ErrNumber"], apart := false, laid := [("lodge/api.ErrShape", laid_lodge_api_ErrShape), ("lodge/api.ErrRange", laid_lodge_api_ErrRange), ("lodge/api.ErrKind", laid_lodge_api_ErrKind), ("lodge/api.ErrMany", laid_lodge_api_ErrMany), ("lodge/api.ErrEnd", laid_lodge_api_ErrEnd), ("lodge/api.ErrRoom", laid_lodge_api_ErrRoom), ("lodge/api.ErrNone", laid_lodge_api_ErrNone), ("lodge/api.ErrAlias", laid_lodge_api_ErrAlias), ("lodge/api.ErrCost", laid_lodge_api_ErrCost), ("lodge/api.ErrJump", laid_lodge_api_ErrJump), ("lodge/api.ErrCycle", laid_lodge_api_ErrCycle), ("lodge/api.ErrFuel", laid_lodge_api_ErrFuel), ("lodge/api.ErrFull", laid_lodge_api_ErrFull), ("lodge/api.ErrQuota", laid_lodge_api_ErrQuota), ("lodge/api.ErrCap", laid_lodge_api_ErrCap), ("lodge/api.ErrStale", laid_lodge_api_ErrStale), ("lodge/api.ErrTag", laid_lodge_api_ErrTag), ("lodge/api.ErrOld", laid_lodge_api_ErrOld), ("lodge/api.ErrTenant", laid_lodge_api_ErrTenant), ("lodge/api.ErrWord", laid_lodge_api_ErrWord), ("lodge/api.ErrNumber", laid_lodge_api_ErrNumber)] }
def QuantEdgesSaid : Prop := quantEdgesRow.holds Tryd.pinned (OpenSpec.ofChange quantEdgesSpec)

/-- ITS FALSE NEIGHBOUR: 'it returns false'. Refute it at one input. -/
def quantEdgesWrong : ChangeSpec := { name := "quantEdges", fn := fun _ => fun
  | [d1, d2] => { results := [.lit (.bool false)], args := [d1, d2] }
  | _ => none }
def QuantEdgesWrongFalsely : Prop := quantEdgesRow.holds Tryd.pinned (OpenSpec.ofChange quantEdgesWrong)

/-- 'lodgelaw3.FltParts': WHATEVER THE INPUT: true; the input reads as it did. -/
def fltPartsSpec : ChangeSpec := { name := "fltParts", fn := fun _ => fun
  | [d1, d2, d3] => { results := [.lit (.bool true)], args := [d1, d2, d3] }
  | _ => none }
def fltPartsRow : OpenClaim := { program := "ytcpfangcibilaaadoor", sum := "f0e9fe16ba586c5dc757aed4115a385a24ca09f0728fdb2e119cd7dbf11ee504", func := "lodge/lodgelaw3.FltParts", spec := "fltParts", inPlace := ["math.Float64bits", "math.Float64frombits", "math.RoundToEven"], named := ["math/bits.deBruijn64tab"], apart := false, laid := [("math/bits.deBruijn64tab", laid_math_bits_deBruijn64tab)] }
def FltPartsSaid : Prop := fltPartsRow.holds Tryd.pinned (OpenSpec.ofChange fltPartsSpec)

/-- ITS FALSE NEIGHBOUR: 'it returns false'. Refute it at one input. -/
def fltPartsWrong : ChangeSpec := { name := "fltParts", fn := fun _ => fun
  | [d1, d2, d3] => { results := [.lit (.bool false)], args := [d1, d2, d3] }
  | _ => none }
def FltPartsWrongFalsely : Prop := fltPartsRow.holds Tryd.pinned (OpenSpec.ofChange fltPartsWrong)

/-- 'lodgelaw3.FltSmall': WHATEVER THE INPUT: true; the input reads as it did. -/
def fltSmallSpec : ChangeSpec := { name := "fltSmall", fn := fun _ => fun
  | [d] => { results := [.lit (.bool true)], args := [d] }
  | _ => none }
def fltSmallRow : OpenClaim := { program := "ytcpfangcibilaaadoor", sum := "f0e9fe16ba586c5dc757aed4115a385a24ca09f0728fdb2e119cd7dbf11ee504", func := "lodge/lodgelaw3.FltSmall", spec := "fltSmall", inPlace := ["math.Float64bits", "math.Float64frombits", "math.RoundToEven"], named := ["math/bits.deBruijn64tab"], apart := false, laid := [("math/bits.deBruijn64tab", laid_math_bits_deBruijn64tab)] }
def FltSmallSaid : Prop := fltSmallRow.holds Tryd.pinned (OpenSpec.ofChange fltSmallSpec)

/-- ITS FALSE NEIGHBOUR: 'it returns false'. Refute it at one input. -/
def fltSmallWrong : ChangeSpec := { name := "fltSmall", fn := fun _ => fun
  | [d] => { results := [.lit (.bool false)], args := [d] }
  | _ => none }
def FltSmallWrongFalsely : Prop := fltSmallRow.holds Tryd.pinned (OpenSpec.ofChange fltSmallWrong)

/-- 'lodgelaw3.FltGreat': WHATEVER THE INPUT: true; the input reads as it did. -/
def fltGreatSpec : ChangeSpec := { name := "fltGreat", fn := fun _ => fun
  | [d1, d2] => { results := [.lit (.bool true)], args := [d1, d2] }
  | _ => none }
def fltGreatRow : OpenClaim := { program := "ytcpfangcibilaaadoor", sum := "f0e9fe16ba586c5dc757aed4115a385a24ca09f0728fdb2e119cd7dbf11ee504", func := "lodge/lodgelaw3.FltGreat", spec := "fltGreat", inPlace := ["math.Float64bits", "math.Float64frombits", "math.RoundToEven"], named := ["math/bits.deBruijn64tab"], apart := false, laid := [("math/bits.deBruijn64tab", laid_math_bits_deBruijn64tab)] }
def FltGreatSaid : Prop := fltGreatRow.holds Tryd.pinned (OpenSpec.ofChange fltGreatSpec)

/-- ITS FALSE NEIGHBOUR: 'it returns false'. Refute it at one input. -/
def fltGreatWrong : ChangeSpec := { name := "fltGreat", fn := fun _ => fun
  | [d1, d2] => { results := [.lit (.bool false)], args := [d1, d2] }
  | _ => none }
def FltGreatWrongFalsely : Prop := fltGreatRow.holds Tryd.pinned (OpenSpec.ofChange fltGreatWrong)

/-- 'lodgelaw3.FltPowers': WHATEVER THE INPUT: true; the input reads as it did. -/
def fltPowersSpec : ChangeSpec := { name := "fltPowers", fn := fun _ => fun
  | [d1, d2] => { results := [.lit (.bool true)], args := [d1, d2] }
  | _ => none }
def fltPowersRow : OpenClaim := { program := "ytcpfangcibilaaadoor", sum := "f0e9fe16ba586c5dc757aed4115a385a24ca09f0728fdb2e119cd7dbf11ee504", func := "lodge/lodgelaw3.FltPowers", spec := "fltPowers", inPlace := ["math.Float64bits", "math.Float64frombits", "math.RoundToEven"], named := ["math/bits.deBruijn64tab"], apart := false, laid := [("math/bits.deBruijn64tab", laid_math_bits_deBruijn64tab)] }
def FltPowersSaid : Prop := fltPowersRow.holds Tryd.pinned (OpenSpec.ofChange fltPowersSpec)

/-- ITS FALSE NEIGHBOUR: 'it returns false'. Refute it at one input. -/
def fltPowersWrong : ChangeSpec := { name := "fltPowers", fn := fun _ => fun
  | [d1, d2] => { results := [.lit (.bool false)], args := [d1, d2] }
  | _ => none }
def FltPowersWrongFalsely : Prop := fltPowersRow.holds Tryd.pinned (OpenSpec.ofChange fltPowersWrong)

/-- 'lodgelaw4.QuantFits': WHATEVER THE INPUT: true; the input reads as it did. -/
def quantFitsSpec : ChangeSpec := { name := "quantFits", fn := fun _ => fun
  | [d1, d2] => { results := [.lit (.bool true)], args := [d1, d2] }
  | _ => none }
def quantFitsRow : OpenClaim := { program := "ytcpfangcibilaaadoor", sum := "f0e9fe16ba586c5dc757aed4115a385a24ca09f0728fdb2e119cd7dbf11ee504", func := "lodge/lodgelaw4.QuantFits", spec := "quantFits", inPlace := ["math.Float64bits", "math.Float64frombits", "math.RoundToEven"], named := ["lodge/api.ErrRange", "lodge/api.ErrShape", "lodge/api.ErrKind", "lodge/api.ErrMany", "lodge/api.ErrEnd", "lodge/api.ErrRoom", "lodge/api.ErrNone", "lodge/api.ErrAlias", "lodge/api.ErrCost", "lodge/api.ErrJump", "lodge/api.ErrCycle", "lodge/api.ErrFuel", "lodge/api.ErrFull", "lodge/api.ErrQuota", "lodge/api.ErrCap", "lodge/api.ErrStale", "lodge/api.ErrTag", "lodge/api.ErrOld", "lodge/api.ErrTenant", "lodge/api.ErrWord", "lodge/api.ErrNumber"], apart := false, laid := [("lodge/api.ErrShape", laid_lodge_api_ErrShape), ("lodge/api.ErrRange", laid_lodge_api_ErrRange), ("lodge/api.ErrKind", laid_lodge_api_ErrKind), ("lodge/api.ErrMany", laid_lodge_api_ErrMany), ("lodge/api.ErrEnd", laid_lodge_api_ErrEnd), ("lodge/api.ErrRoom", laid_lodge_api_ErrRoom), ("lodge/api.ErrNone", laid_lodge_api_ErrNone), ("lodge/api.ErrAlias", laid_lodge_api_ErrAlias), ("lodge/api.ErrCost", laid_lodge_api_ErrCost), ("lodge/api.ErrJump", laid_lodge_api_ErrJump), ("lodge/api.ErrCycle", laid_lodge_api_ErrCycle), ("lodge/api.ErrFuel", laid_lodge_api_ErrFuel), ("lodge/api.ErrFull", laid_lodge_api_ErrFull), ("lodge/api.ErrQuota", laid_lodge_api_ErrQuota), ("lodge/api.ErrCap", laid_lodge_api_ErrCap), ("lodge/api.ErrStale", laid_lodge_api_ErrStale), ("lodge/api.ErrTag", laid_lodge_api_ErrTag), ("lodge/api.ErrOld", laid_lodge_api_ErrOld), ("lodge/api.ErrTenant", laid_lodge_api_ErrTenant), ("lodge/api.ErrWord", laid_lodge_api_ErrWord), ("lodge/api.ErrNumber", laid_lodge_api_ErrNumber)] }
def QuantFitsSaid : Prop := quantFitsRow.holds Tryd.pinned (OpenSpec.ofChange quantFitsSpec)

/-- ITS FALSE NEIGHBOUR: 'it returns false'. Refute it at one input. -/
def quantFitsWrong : ChangeSpec := { name := "quantFits", fn := fun _ => fun
  | [d1, d2] => { results := [.lit (.bool false)], args := [d1, d2] }
  | _ => none }
def QuantFitsWrongFalsely : Prop := quantFitsRow.holds Tryd.pinned (OpenSpec.ofChange quantFitsWrong)

/-- 'lodgelaw4.QuantSpans': WHATEVER THE INPUT: true; the input reads as it did. -/
def quantSpansSpec : ChangeSpec := { name := "quantSpans", fn := fun _ => fun
  | [d] => { results := [.lit (.bool true)], args := [d] }
  | _ => none }
def quantSpansRow : OpenClaim := { program := "ytcpfangcibilaaadoor", sum := "f0e9fe16ba586c5dc757aed4115a385a24ca09f0728fdb2e119cd7dbf11ee504", func := "lodge/lodgelaw4.QuantSpans", spec := "quantSpans", inPlace := ["math.Float64bits", "math.Float64frombits", "math.RoundToEven", "math.archMin", "math.archMax"], named := ["lodge/api.ErrRange", "lodge/api.ErrShape", "lodge/api.ErrKind", "lodge/api.ErrMany", "lodge/api.ErrEnd", "lodge/api.ErrRoom", "lodge/api.ErrNone", "lodge/api.ErrAlias", "lodge/api.ErrCost", "lodge/api.ErrJump", "lodge/api.ErrCycle", "lodge/api.ErrFuel", "lodge/api.ErrFull", "lodge/api.ErrQuota", "lodge/api.ErrCap", "lodge/api.ErrStale", "lodge/api.ErrTag", "lodge/api.ErrOld", "lodge/api.ErrTenant", "lodge/api.ErrWord", "lodge/api.ErrNumber"], apart := false, laid := [("lodge/api.ErrShape", laid_lodge_api_ErrShape), ("lodge/api.ErrRange", laid_lodge_api_ErrRange), ("lodge/api.ErrKind", laid_lodge_api_ErrKind), ("lodge/api.ErrMany", laid_lodge_api_ErrMany), ("lodge/api.ErrEnd", laid_lodge_api_ErrEnd), ("lodge/api.ErrRoom", laid_lodge_api_ErrRoom), ("lodge/api.ErrNone", laid_lodge_api_ErrNone), ("lodge/api.ErrAlias", laid_lodge_api_ErrAlias), ("lodge/api.ErrCost", laid_lodge_api_ErrCost), ("lodge/api.ErrJump", laid_lodge_api_ErrJump), ("lodge/api.ErrCycle", laid_lodge_api_ErrCycle), ("lodge/api.ErrFuel", laid_lodge_api_ErrFuel), ("lodge/api.ErrFull", laid_lodge_api_ErrFull), ("lodge/api.ErrQuota", laid_lodge_api_ErrQuota), ("lodge/api.ErrCap", laid_lodge_api_ErrCap), ("lodge/api.ErrStale", laid_lodge_api_ErrStale), ("lodge/api.ErrTag", laid_lodge_api_ErrTag), ("lodge/api.ErrOld", laid_lodge_api_ErrOld), ("lodge/api.ErrTenant", laid_lodge_api_ErrTenant), ("lodge/api.ErrWord", laid_lodge_api_ErrWord), ("lodge/api.ErrNumber", laid_lodge_api_ErrNumber)] }
def QuantSpansSaid : Prop := quantSpansRow.holds Tryd.pinned (OpenSpec.ofChange quantSpansSpec)

/-- ITS FALSE NEIGHBOUR: 'it returns false'. Refute it at one input. -/
def quantSpansWrong : ChangeSpec := { name := "quantSpans", fn := fun _ => fun
  | [d] => { results := [.lit (.bool false)], args := [d] }
  | _ => none }
def QuantSpansWrongFalsely : Prop := quantSpansRow.holds Tryd.pinned (OpenSpec.ofChange quantSpansWrong)

/-- 'lodgelaw3.FltOrder': WHATEVER THE INPUT: true; the input reads as it did. -/
def fltOrderSpec : ChangeSpec := { name := "fltOrder", fn := fun _ => fun
  | [d1, d2, d3] => { results := [.lit (.bool true)], args := [d1, d2, d3] }
  | _ => none }
def fltOrderRow : OpenClaim := { program := "ytcpfangcibilaaadoor", sum := "f0e9fe16ba586c5dc757aed4115a385a24ca09f0728fdb2e119cd7dbf11ee504", func := "lodge/lodgelaw3.FltOrder", spec := "fltOrder", inPlace := ["math.Float64bits", "math.Float64frombits", "math.RoundToEven"], unfollowed := true, recurses := true, named := ["math/bits.deBruijn64tab"], apart := false, laid := [("math/bits.deBruijn64tab", laid_math_bits_deBruijn64tab)] }
def FltOrderSaid : Prop := fltOrderRow.holds Tryd.pinned (OpenSpec.ofChange fltOrderSpec)

/-- ITS FALSE NEIGHBOUR: 'it returns false'. Refute it at one input. -/
def fltOrderWrong : ChangeSpec := { name := "fltOrder", fn := fun _ => fun
  | [d1, d2, d3] => { results := [.lit (.bool false)], args := [d1, d2, d3] }
  | _ => none }
def FltOrderWrongFalsely : Prop := fltOrderRow.holds Tryd.pinned (OpenSpec.ofChange fltOrderWrong)

/-- 'lodgelaw3.FltSorts': WHATEVER THE INPUT: true; the input reads as it did. -/
def fltSortsSpec : ChangeSpec := { name := "fltSorts", fn := fun _ => fun
  | [d] => { results := [.lit (.bool true)], args := [d] }
  | _ => none }
def fltSortsRow : OpenClaim := { program := "ytcpfangcibilaaadoor", sum := "f0e9fe16ba586c5dc757aed4115a385a24ca09f0728fdb2e119cd7dbf11ee504", func := "lodge/lodgelaw3.FltSorts", spec := "fltSorts", inPlace := ["math.Float64bits", "math.Float64frombits", "math.RoundToEven"], unfollowed := true, recurses := true, named := ["math/bits.deBruijn64tab"], apart := false, laid := [("math/bits.deBruijn64tab", laid_math_bits_deBruijn64tab)] }
def FltSortsSaid : Prop := fltSortsRow.holds Tryd.pinned (OpenSpec.ofChange fltSortsSpec)

/-- ITS FALSE NEIGHBOUR: 'it returns false'. Refute it at one input. -/
def fltSortsWrong : ChangeSpec := { name := "fltSorts", fn := fun _ => fun
  | [d] => { results := [.lit (.bool false)], args := [d] }
  | _ => none }
def FltSortsWrongFalsely : Prop := fltSortsRow.holds Tryd.pinned (OpenSpec.ofChange fltSortsWrong)

/- THE SECOND FORM. 'bulk': how many values and letters a reading holds, each counted each time it is reached (what is shared counts as often as it is met; a slice's spare places count too). A statement '..UptoSaid' is the law's where the arguments, and the package variables that the reading takes, are together of bulk at most 1048576: NARROWER than '..Said'. Prove '..Said' where nothing that the law and all that it calls make is longer than what came in: it says more and counts as full. Else prove '..UptoSaid'. A law counts once. -/
mutual
def uptoBulk {H : Type} : DataW H → Nat
  | .lit (.string bytes) => bytes.length + 1
  | .lit _ => 1
  | .nil => 1
  | .ptr d => uptoBulk d + 1
  | .slice elems spare => uptoBulkAll elems + uptoBulkAll spare + 1
  | .agg parts => uptoBulkAll parts + 1
  | .iface _ d => uptoBulk d + 1
  | .map entries => uptoBulkEntries entries + 1
  | .held _ => 1
def uptoBulkAll {H : Type} : List (DataW H) → Nat
  | [] => 0
  | d :: r => uptoBulk d + uptoBulkAll r
def uptoBulkEntries {H : Type} : List (Lit × DataW H) → Nat
  | [] => 0
  | x :: r => uptoBulkEntry x + uptoBulkEntries r
def uptoBulkEntry {H : Type} : Lit × DataW H → Nat
  | (.string bytes, d) => bytes.length + uptoBulk d + 1
  | (_, d) => uptoBulk d + 1
 end
def uptoSmall : (H : Type) → List (DataW H) → Bool := fun _ ds => decide (uptoBulkAll ds ≤ 1048576)
def OpenSpec.upto (s : _root_.Go.ChangeSpec) : _root_.Go.OpenSpec := { _root_.Go.OpenSpec.ofChange s with cond := some uptoSmall }

/-- 'lodgelaw4.QuantFixed', WHERE WHAT IT READS IS OF BULK AT MOST 1048576: true; the input reads as it did. -/
def quantFixedUptoRow : OpenClaim := { program := "ytcpfangcibilaaadoor", sum := "f0e9fe16ba586c5dc757aed4115a385a24ca09f0728fdb2e119cd7dbf11ee504", func := "lodge/lodgelaw4.QuantFixed", spec := "quantFixed", inPlace := ["math.Float64bits", "math.Float64frombits", "math.RoundToEven"], named := ["lodge/api.ErrRange", "lodge/api.ErrShape", "lodge/api.ErrKind", "lodge/api.ErrMany", "lodge/api.ErrEnd", "lodge/api.ErrRoom", "lodge/api.ErrNone", "lodge/api.ErrAlias", "lodge/api.ErrCost", "lodge/api.ErrJump", "lodge/api.ErrCycle", "lodge/api.ErrFuel", "lodge/api.ErrFull", "lodge/api.ErrQuota", "lodge/api.ErrCap", "lodge/api.ErrStale", "lodge/api.ErrTag", "lodge/api.ErrOld", "lodge/api.ErrTenant", "lodge/api.ErrWord", "lodge/api.ErrNumber"], apart := false, laid := [("lodge/api.ErrShape", laid_lodge_api_ErrShape), ("lodge/api.ErrRange", laid_lodge_api_ErrRange), ("lodge/api.ErrKind", laid_lodge_api_ErrKind), ("lodge/api.ErrMany", laid_lodge_api_ErrMany), ("lodge/api.ErrEnd", laid_lodge_api_ErrEnd), ("lodge/api.ErrRoom", laid_lodge_api_ErrRoom), ("lodge/api.ErrNone", laid_lodge_api_ErrNone), ("lodge/api.ErrAlias", laid_lodge_api_ErrAlias), ("lodge/api.ErrCost", laid_lodge_api_ErrCost), ("lodge/api.ErrJump", laid_lodge_api_ErrJump), ("lodge/api.ErrCycle", laid_lodge_api_ErrCycle), ("lodge/api.ErrFuel", laid_lodge_api_ErrFuel), ("lodge/api.ErrFull", laid_lodge_api_ErrFull), ("lodge/api.ErrQuota", laid_lodge_api_ErrQuota), ("lodge/api.ErrCap", laid_lodge_api_ErrCap), ("lodge/api.ErrStale", laid_lodge_api_ErrStale), ("lodge/api.ErrTag", laid_lodge_api_ErrTag), ("lodge/api.ErrOld", laid_lodge_api_ErrOld), ("lodge/api.ErrTenant", laid_lodge_api_ErrTenant), ("lodge/api.ErrWord", laid_lodge_api_ErrWord), ("lodge/api.ErrNumber", laid_lodge_api_ErrNumber)], narrowed := true }
def QuantFixedUptoSaid : Prop := quantFixedUptoRow.holds Tryd.pinned (OpenSpec.upto quantFixedSpec)

/-- 'lodgelaw4.QuantShifts', WHERE WHAT IT READS IS OF BULK AT MOST 1048576: true; the input reads as it did. -/
def quantShiftsUptoRow : OpenClaim := { program := "ytcpfangcibilaaadoor", sum := "f0e9fe16ba586c5dc757aed4115a385a24ca09f0728fdb2e119cd7dbf11ee504", func := "lodge/lodgelaw4.QuantShifts", spec := "quantShifts", inPlace := ["math.Float64bits", "math.Float64frombits", "math.RoundToEven"], named := ["lodge/api.ErrRange"], apart := false, laid := [("lodge/api.ErrRange", laid_lodge_api_ErrRange)], narrowed := true }
def QuantShiftsUptoSaid : Prop := quantShiftsUptoRow.holds Tryd.pinned (OpenSpec.upto quantShiftsSpec)

/-- 'lodgelaw4.QuantTells', WHERE WHAT IT READS IS OF BULK AT MOST 1048576: true; the input reads as it did. -/
def quantTellsUptoRow : OpenClaim := { program := "ytcpfangcibilaaadoor", sum := "f0e9fe16ba586c5dc757aed4115a385a24ca09f0728fdb2e119cd7dbf11ee504", func := "lodge/lodgelaw4.QuantTells", spec := "quantTells", inPlace := ["math.Float64bits", "math.Float64frombits", "math.RoundToEven"], named := ["lodge/api.ErrRange"], apart := false, laid := [("lodge/api.ErrRange", laid_lodge_api_ErrRange)], narrowed := true }
def QuantTellsUptoSaid : Prop := quantTellsUptoRow.holds Tryd.pinned (OpenSpec.upto quantTellsSpec)

/-- 'lodgelaw3.FltHalves', WHERE WHAT IT READS IS OF BULK AT MOST 1048576: true; the input reads as it did. -/
def fltHalvesUptoRow : OpenClaim := { program := "ytcpfangcibilaaadoor", sum := "f0e9fe16ba586c5dc757aed4115a385a24ca09f0728fdb2e119cd7dbf11ee504", func := "lodge/lodgelaw3.FltHalves", spec := "fltHalves", inPlace := ["math.Float64bits", "math.Float64frombits", "math.RoundToEven"], named := ["math/bits.deBruijn64tab"], apart := false, laid := [("math/bits.deBruijn64tab", laid_math_bits_deBruijn64tab)], narrowed := true }
def FltHalvesUptoSaid : Prop := fltHalvesUptoRow.holds Tryd.pinned (OpenSpec.upto fltHalvesSpec)

/-- 'lodgelaw3.FltRounds', WHERE WHAT IT READS IS OF BULK AT MOST 1048576: true; the input reads as it did. -/
def fltRoundsUptoRow : OpenClaim := { program := "ytcpfangcibilaaadoor", sum := "f0e9fe16ba586c5dc757aed4115a385a24ca09f0728fdb2e119cd7dbf11ee504", func := "lodge/lodgelaw3.FltRounds", spec := "fltRounds", inPlace := ["math.Float64bits", "math.Float64frombits", "math.RoundToEven"], named := ["math/bits.deBruijn64tab"], apart := false, laid := [("math/bits.deBruijn64tab", laid_math_bits_deBruijn64tab)], narrowed := true }
def FltRoundsUptoSaid : Prop := fltRoundsUptoRow.holds Tryd.pinned (OpenSpec.upto fltRoundsSpec)

/-- 'lodgelaw3.FltKinds', WHERE WHAT IT READS IS OF BULK AT MOST 1048576: true; the input reads as it did. -/
def fltKindsUptoRow : OpenClaim := { program := "ytcpfangcibilaaadoor", sum := "f0e9fe16ba586c5dc757aed4115a385a24ca09f0728fdb2e119cd7dbf11ee504", func := "lodge/lodgelaw3.FltKinds", spec := "fltKinds", inPlace := ["math.Float64bits", "math.Float64frombits", "math.RoundToEven"], named := ["math/bits.deBruijn64tab"], apart := false, laid := [("math/bits.deBruijn64tab", laid_math_bits_deBruijn64tab)], narrowed := true }
def FltKindsUptoSaid : Prop := fltKindsUptoRow.holds Tryd.pinned (OpenSpec.upto fltKindsSpec)

/-- 'lodgelaw3.FltSums', WHERE WHAT IT READS IS OF BULK AT MOST 1048576: true; the input reads as it did. -/
def fltSumsUptoRow : OpenClaim := { program := "ytcpfangcibilaaadoor", sum := "f0e9fe16ba586c5dc757aed4115a385a24ca09f0728fdb2e119cd7dbf11ee504", func := "lodge/lodgelaw3.FltSums", spec := "fltSums", inPlace := ["math.Float64bits", "math.Float64frombits", "math.RoundToEven"], named := ["math/bits.deBruijn64tab"], apart := false, laid := [("math/bits.deBruijn64tab", laid_math_bits_deBruijn64tab)], narrowed := true }
def FltSumsUptoSaid : Prop := fltSumsUptoRow.holds Tryd.pinned (OpenSpec.upto fltSumsSpec)

/-- 'lodgelaw4.QuantNears', WHERE WHAT IT READS IS OF BULK AT MOST 1048576: true; the input reads as it did. -/
def quantNearsUptoRow : OpenClaim := { program := "ytcpfangcibilaaadoor", sum := "f0e9fe16ba586c5dc757aed4115a385a24ca09f0728fdb2e119cd7dbf11ee504", func := "lodge/lodgelaw4.QuantNears", spec := "quantNears", inPlace := ["math.Float64bits", "math.Float64frombits", "math.RoundToEven"], named := ["lodge/api.ErrRange"], apart := false, laid := [("lodge/api.ErrRange", laid_lodge_api_ErrRange)], narrowed := true }
def QuantNearsUptoSaid : Prop := quantNearsUptoRow.holds Tryd.pinned (OpenSpec.upto quantNearsSpec)

/-- 'lodgelaw3.FltBytes', WHERE WHAT IT READS IS OF BULK AT MOST 1048576: true; the input reads as it did. -/
def fltBytesUptoRow : OpenClaim := { program := "ytcpfangcibilaaadoor", sum := "f0e9fe16ba586c5dc757aed4115a385a24ca09f0728fdb2e119cd7dbf11ee504", func := "lodge/lodgelaw3.FltBytes", spec := "fltBytes", inPlace := ["math.Float64bits", "math.Float64frombits", "math.RoundToEven"], named := ["math/bits.deBruijn64tab", "lodge/api.ErrEnd", "lodge/api.ErrMany", "lodge/api.ErrShape", "lodge/api.ErrRange", "lodge/api.ErrKind", "lodge/api.ErrRoom", "lodge/api.ErrNone", "lodge/api.ErrAlias", "lodge/api.ErrCost", "lodge/api.ErrJump", "lodge/api.ErrCycle", "lodge/api.ErrFuel", "lodge/api.ErrFull", "lodge/api.ErrQuota", "lodge/api.ErrCap", "lodge/api.ErrStale", "lodge/api.ErrTag", "lodge/api.ErrOld", "lodge/api.ErrTenant", "lodge/api.ErrWord", "lodge/api.ErrNumber"], apart := false, laid := [("math/bits.deBruijn64tab", laid_math_bits_deBruijn64tab), ("lodge/api.ErrShape", laid_lodge_api_ErrShape), ("lodge/api.ErrRange", laid_lodge_api_ErrRange), ("lodge/api.ErrKind", laid_lodge_api_ErrKind), ("lodge/api.ErrMany", laid_lodge_api_ErrMany), ("lodge/api.ErrEnd", laid_lodge_api_ErrEnd), ("lodge/api.ErrRoom", laid_lodge_api_ErrRoom), ("lodge/api.ErrNone", laid_lodge_api_ErrNone), ("lodge/api.ErrAlias", laid_lodge_api_ErrAlias), ("lodge/api.ErrCost", laid_lodge_api_ErrCost), ("lodge/api.ErrJump", laid_lodge_api_ErrJump), ("lodge/api.ErrCycle", laid_lodge_api_ErrCycle), ("lodge/api.ErrFuel", laid_lodge_api_ErrFuel), ("lodge/api.ErrFull", laid_lodge_api_ErrFull), ("lodge/api.ErrQuota", laid_lodge_api_ErrQuota), ("lodge/api.ErrCap", laid_lodge_api_ErrCap), ("lodge/api.ErrStale", laid_lodge_api_ErrStale), ("lodge/api.ErrTag", laid_lodge_api_ErrTag), ("lodge/api.ErrOld", laid_lodge_api_ErrOld), ("lodge/api.ErrTenant", laid_lodge_api_ErrTenant), ("lodge/api.ErrWord", laid_lodge_api_ErrWord), ("lodge/api.ErrNumber", laid_lodge_api_ErrNumber)], narrowed := true }
def FltBytesUptoSaid : Prop := fltBytesUptoRow.holds Tryd.pinned (OpenSpec.upto fltBytesSpec)

/-- 'lodgelaw4.QuantScales', WHERE WHAT IT READS IS OF BULK AT MOST 1048576: true; the input reads as it did. -/
def quantScalesUptoRow : OpenClaim := { program := "ytcpfangcibilaaadoor", sum := "f0e9fe16ba586c5dc757aed4115a385a24ca09f0728fdb2e119cd7dbf11ee504", func := "lodge/lodgelaw4.QuantScales", spec := "quantScales", inPlace := ["math.Float64bits", "math.Float64frombits", "math.RoundToEven"], named := ["lodge/api.ErrRange", "lodge/api.ErrShape", "lodge/api.ErrKind", "lodge/api.ErrMany", "lodge/api.ErrEnd", "lodge/api.ErrRoom", "lodge/api.ErrNone", "lodge/api.ErrAlias", "lodge/api.ErrCost", "lodge/api.ErrJump", "lodge/api.ErrCycle", "lodge/api.ErrFuel", "lodge/api.ErrFull", "lodge/api.ErrQuota", "lodge/api.ErrCap", "lodge/api.ErrStale", "lodge/api.ErrTag", "lodge/api.ErrOld", "lodge/api.ErrTenant", "lodge/api.ErrWord", "lodge/api.ErrNumber"], apart := false, laid := [("lodge/api.ErrShape", laid_lodge_api_ErrShape), ("lodge/api.ErrRange", laid_lodge_api_ErrRange), ("lodge/api.ErrKind", laid_lodge_api_ErrKind), ("lodge/api.ErrMany", laid_lodge_api_ErrMany), ("lodge/api.ErrEnd", laid_lodge_api_ErrEnd), ("lodge/api.ErrRoom", laid_lodge_api_ErrRoom), ("lodge/api.ErrNone", laid_lodge_api_ErrNone), ("lodge/api.ErrAlias", laid_lodge_api_ErrAlias), ("lodge/api.ErrCost", laid_lodge_api_ErrCost), ("lodge/api.ErrJump", laid_lodge_api_ErrJump), ("lodge/api.ErrCycle", laid_lodge_api_ErrCycle), ("lodge/api.ErrFuel", laid_lodge_api_ErrFuel), ("lodge/api.ErrFull", laid_lodge_api_ErrFull), ("lodge/api.ErrQuota", laid_lodge_api_ErrQuota), ("lodge/api.ErrCap", laid_lodge_api_ErrCap), ("lodge/api.ErrStale", laid_lodge_api_ErrStale), ("lodge/api.ErrTag", laid_lodge_api_ErrTag), ("lodge/api.ErrOld", laid_lodge_api_ErrOld), ("lodge/api.ErrTenant", laid_lodge_api_ErrTenant), ("lodge/api.ErrWord", laid_lodge_api_ErrWord), ("lodge/api.ErrNumber", laid_lodge_api_ErrNumber)], narrowed := true }
def QuantScalesUptoSaid : Prop := quantScalesUptoRow.holds Tryd.pinned (OpenSpec.upto quantScalesSpec)

/-- 'lodgelaw4.QuantEdges', WHERE WHAT IT READS IS OF BULK AT MOST 1048576: true; the input reads as it did. -/
def quantEdgesUptoRow : OpenClaim := { program := "ytcpfangcibilaaadoor", sum := "f0e9fe16ba586c5dc757aed4115a385a24ca09f0728fdb2e119cd7dbf11ee504", func := "lodge/lodgelaw4.QuantEdges", spec := "quantEdges", inPlace := ["math.Float64bits", "math.Float64frombits", "math.RoundToEven"], named := ["lodge/api.ErrRange", "lodge/api.ErrShape", "lodge/api.ErrKind", "lodge/api.ErrMany", "lodge/api.ErrEnd", "lodge/api.ErrRoom", "lodge/api.ErrNone", "lodge/api.ErrAlias", "lodge/api.ErrCost", "lodge/api.ErrJump", "lodge/api.ErrCycle", "lodge/api.ErrFuel", "lodge/api.ErrFull", "lodge/api.ErrQuota", "lodge/api.ErrCap", "lodge/api.ErrStale", "lodge/api.ErrTag", "lodge/api.ErrOld", "lodge/api.ErrTenant", "lodge/api.ErrWord", "lodge/api.ErrNumber"], apart := false, laid := [("lodge/api.ErrShape", laid_lodge_api_ErrShape), ("lodge/api.ErrRange", laid_lodge_api_ErrRange), ("lodge/api.ErrKind", laid_lodge_api_ErrKind), ("lodge/api.ErrMany", laid_lodge_api_ErrMany), ("lodge/api.ErrEnd", laid_lodge_api_ErrEnd), ("lodge/api.ErrRoom", laid_lodge_api_ErrRoom), ("lodge/api.ErrNone", laid_lodge_api_ErrNone), ("lodge/api.ErrAlias", laid_lodge_api_ErrAlias), ("lodge/api.ErrCost", laid_lodge_api_ErrCost), ("lodge/api.ErrJump", laid_lodge_api_ErrJump), ("lodge/api.ErrCycle", laid_lodge_api_ErrCycle), ("lodge/api.ErrFuel", laid_lodge_api_ErrFuel), ("lodge/api.ErrFull", laid_lodge_api_ErrFull), ("lodge/api.ErrQuota", laid_lodge_api_ErrQuota), ("lodge/api.ErrCap", laid_lodge_api_ErrCap), ("lodge/api.ErrStale", laid_lodge_api_ErrStale), ("lodge/api.ErrTag", laid_lodge_api_ErrTag), ("lodge/api.ErrOld", laid_lodge_api_ErrOld), ("lodge/api.ErrTenant", laid_lodge_api_ErrTenant), ("lodge/api.ErrWord", laid_lodge_api_ErrWord), ("lodge/api.ErrNumber", laid_lodge_api_ErrNumber)], narrowed := true }
def QuantEdgesUptoSaid : Prop := quantEdgesUptoRow.holds Tryd.pinned (OpenSpec.upto quantEdgesSpec)

/-- 'lodgelaw3.FltParts', WHERE WHAT IT READS IS OF BULK AT MOST 1048576: true; the input reads as it did. -/
def fltPartsUptoRow : OpenClaim := { program := "ytcpfangcibilaaadoor", sum := "f0e9fe16ba586c5dc757aed4115a385a24ca09f0728fdb2e119cd7dbf11ee504", func := "lodge/lodgelaw3.FltParts", spec := "fltParts", inPlace := ["math.Float64bits", "math.Float64frombits", "math.RoundToEven"], named := ["math/bits.deBruijn64tab"], apart := false, laid := [("math/bits.deBruijn64tab", laid_math_bits_deBruijn64tab)], narrowed := true }
def FltPartsUptoSaid : Prop := fltPartsUptoRow.holds Tryd.pinned (OpenSpec.upto fltPartsSpec)

/-- 'lodgelaw3.FltSmall', WHERE WHAT IT READS IS OF BULK AT MOST 1048576: true; the input reads as it did. -/
def fltSmallUptoRow : OpenClaim := { program := "ytcpfangcibilaaadoor", sum := "f0e9fe16ba586c5dc757aed4115a385a24ca09f0728fdb2e119cd7dbf11ee504", func := "lodge/lodgelaw3.FltSmall", spec := "fltSmall", inPlace := ["math.Float64bits", "math.Float64frombits", "math.RoundToEven"], named := ["math/bits.deBruijn64tab"], apart := false, laid := [("math/bits.deBruijn64tab", laid_math_bits_deBruijn64tab)], narrowed := true }
def FltSmallUptoSaid : Prop := fltSmallUptoRow.holds Tryd.pinned (OpenSpec.upto fltSmallSpec)

/-- 'lodgelaw3.FltGreat', WHERE WHAT IT READS IS OF BULK AT MOST 1048576: true; the input reads as it did. -/
def fltGreatUptoRow : OpenClaim := { program := "ytcpfangcibilaaadoor", sum := "f0e9fe16ba586c5dc757aed4115a385a24ca09f0728fdb2e119cd7dbf11ee504", func := "lodge/lodgelaw3.FltGreat", spec := "fltGreat", inPlace := ["math.Float64bits", "math.Float64frombits", "math.RoundToEven"], named := ["math/bits.deBruijn64tab"], apart := false, laid := [("math/bits.deBruijn64tab", laid_math_bits_deBruijn64tab)], narrowed := true }
def FltGreatUptoSaid : Prop := fltGreatUptoRow.holds Tryd.pinned (OpenSpec.upto fltGreatSpec)

/-- 'lodgelaw3.FltPowers', WHERE WHAT IT READS IS OF BULK AT MOST 1048576: true; the input reads as it did. -/
def fltPowersUptoRow : OpenClaim := { program := "ytcpfangcibilaaadoor", sum := "f0e9fe16ba586c5dc757aed4115a385a24ca09f0728fdb2e119cd7dbf11ee504", func := "lodge/lodgelaw3.FltPowers", spec := "fltPowers", inPlace := ["math.Float64bits", "math.Float64frombits", "math.RoundToEven"], named := ["math/bits.deBruijn64tab"], apart := false, laid := [("math/bits.deBruijn64tab", laid_math_bits_deBruijn64tab)], narrowed := true }
def FltPowersUptoSaid : Prop := fltPowersUptoRow.holds Tryd.pinned (OpenSpec.upto fltPowersSpec)

/-- 'lodgelaw4.QuantFits', WHERE WHAT IT READS IS OF BULK AT MOST 1048576: true; the input reads as it did. -/
def quantFitsUptoRow : OpenClaim := { program := "ytcpfangcibilaaadoor", sum := "f0e9fe16ba586c5dc757aed4115a385a24ca09f0728fdb2e119cd7dbf11ee504", func := "lodge/lodgelaw4.QuantFits", spec := "quantFits", inPlace := ["math.Float64bits", "math.Float64frombits", "math.RoundToEven"], named := ["lodge/api.ErrRange", "lodge/api.ErrShape", "lodge/api.ErrKind", "lodge/api.ErrMany", "lodge/api.ErrEnd", "lodge/api.ErrRoom", "lodge/api.ErrNone", "lodge/api.ErrAlias", "lodge/api.ErrCost", "lodge/api.ErrJump", "lodge/api.ErrCycle", "lodge/api.ErrFuel", "lodge/api.ErrFull", "lodge/api.ErrQuota", "lodge/api.ErrCap", "lodge/api.ErrStale", "lodge/api.ErrTag", "lodge/api.ErrOld", "lodge/api.ErrTenant", "lodge/api.ErrWord", "lodge/api.ErrNumber"], apart := false, laid := [("lodge/api.ErrShape", laid_lodge_api_ErrShape), ("lodge/api.ErrRange", laid_lodge_api_ErrRange), ("lodge/api.ErrKind", laid_lodge_api_ErrKind), ("lodge/api.ErrMany", laid_lodge_api_ErrMany), ("lodge/api.ErrEnd", laid_lodge_api_ErrEnd), ("lodge/api.ErrRoom", laid_lodge_api_ErrRoom), ("lodge/api.ErrNone", laid_lodge_api_ErrNone), ("lodge/api.ErrAlias", laid_lodge_api_ErrAlias), ("lodge/api.ErrCost", laid_lodge_api_ErrCost), ("lodge/api.ErrJump", laid_lodge_api_ErrJump), ("lodge/api.ErrCycle", laid_lodge_api_ErrCycle), ("lodge/api.ErrFuel", laid_lodge_api_ErrFuel), ("lodge/api.ErrFull", laid_lodge_api_ErrFull), ("lodge/api.ErrQuota", laid_lodge_api_ErrQuota), ("lodge/api.ErrCap", laid_lodge_api_ErrCap), ("lodge/api.ErrStale", laid_lodge_api_ErrStale), ("lodge/api.ErrTag", laid_lodge_api_ErrTag), ("lodge/api.ErrOld", laid_lodge_api_ErrOld), ("lodge/api.ErrTenant", laid_lodge_api_ErrTenant), ("lodge/api.ErrWord", laid_lodge_api_ErrWord), ("lodge/api.ErrNumber", laid_lodge_api_ErrNumber)], narrowed := true }
def QuantFitsUptoSaid : Prop := quantFitsUptoRow.holds Tryd.pinned (OpenSpec.upto quantFitsSpec)

/-- 'lodgelaw4.QuantSpans', WHERE WHAT IT READS IS OF BULK AT MOST 1048576: true; the input reads as it did. -/
def quantSpansUptoRow : OpenClaim := { program := "ytcpfangcibilaaadoor", sum := "f0e9fe16ba586c5dc757aed4115a385a24ca09f0728fdb2e119cd7dbf11ee504", func := "lodge/lodgelaw4.QuantSpans", spec := "quantSpans", inPlace := ["math.Float64bits", "math.Float64frombits", "math.RoundToEven", "math.archMin", "math.archMax"], named := ["lodge/api.ErrRange", "lodge/api.ErrShape", "lodge/api.ErrKind", "lodge/api.ErrMany", "lodge/api.ErrEnd", "lodge/api.ErrRoom", "lodge/api.ErrNone", "lodge/api.ErrAlias", "lodge/api.ErrCost", "lodge/api.ErrJump", "lodge/api.ErrCycle", "lodge/api.ErrFuel", "lodge/api.ErrFull", "lodge/api.ErrQuota", "lodge/api.ErrCap", "lodge/api.ErrStale", "lodge/api.ErrTag", "lodge/api.ErrOld", "lodge/api.ErrTenant", "lodge/api.ErrWord", "lodge/api.ErrNumber"], apart := false, laid := [("lodge/api.ErrShape", laid_lodge_api_ErrShape), ("lodge/api.ErrRange", laid_lodge_api_ErrRange), ("lodge/api.ErrKind", laid_lodge_api_ErrKind), ("lodge/api.ErrMany", laid_lodge_api_ErrMany), ("lodge/api.ErrEnd", laid_lodge_api_ErrEnd), ("lodge/api.ErrRoom", laid_lodge_api_ErrRoom), ("lodge/api.ErrNone", laid_lodge_api_ErrNone), ("lodge/api.ErrAlias", laid_lodge_api_ErrAlias), ("lodge/api.ErrCost", laid_lodge_api_ErrCost), ("lodge/api.ErrJump", laid_lodge_api_ErrJump), ("lodge/api.ErrCycle", laid_lodge_api_ErrCycle), ("lodge/api.ErrFuel", laid_lodge_api_ErrFuel), ("lodge/api.ErrFull", laid_lodge_api_ErrFull), ("lodge/api.ErrQuota", laid_lodge_api_ErrQuota), ("lodge/api.ErrCap", laid_lodge_api_ErrCap), ("lodge/api.ErrStale", laid_lodge_api_ErrStale), ("lodge/api.ErrTag", laid_lodge_api_ErrTag), ("lodge/api.ErrOld", laid_lodge_api_ErrOld), ("lodge/api.ErrTenant", laid_lodge_api_ErrTenant), ("lodge/api.ErrWord", laid_lodge_api_ErrWord), ("lodge/api.ErrNumber", laid_lodge_api_ErrNumber)], narrowed := true }
def QuantSpansUptoSaid : Prop := quantSpansUptoRow.holds Tryd.pinned (OpenSpec.upto quantSpansSpec)

/-- 'lodgelaw3.FltOrder', WHERE WHAT IT READS IS OF BULK AT MOST 1048576: true; the input reads as it did. -/
def fltOrderUptoRow : OpenClaim := { program := "ytcpfangcibilaaadoor", sum := "f0e9fe16ba586c5dc757aed4115a385a24ca09f0728fdb2e119cd7dbf11ee504", func := "lodge/lodgelaw3.FltOrder", spec := "fltOrder", inPlace := ["math.Float64bits", "math.Float64frombits", "math.RoundToEven"], unfollowed := true, recurses := true, named := ["math/bits.deBruijn64tab"], apart := false, laid := [("math/bits.deBruijn64tab", laid_math_bits_deBruijn64tab)], narrowed := true }
def FltOrderUptoSaid : Prop := fltOrderUptoRow.holds Tryd.pinned (OpenSpec.upto fltOrderSpec)

/-- 'lodgelaw3.FltSorts', WHERE WHAT IT READS IS OF BULK AT MOST 1048576: true; the input reads as it did. -/
def fltSortsUptoRow : OpenClaim := { program := "ytcpfangcibilaaadoor", sum := "f0e9fe16ba586c5dc757aed4115a385a24ca09f0728fdb2e119cd7dbf11ee504", func := "lodge/lodgelaw3.FltSorts", spec := "fltSorts", inPlace := ["math.Float64bits", "math.Float64frombits", "math.RoundToEven"], unfollowed := true, recurses := true, named := ["math/bits.deBruijn64tab"], apart := false, laid := [("math/bits.deBruijn64tab", laid_math_bits_deBruijn64tab)], narrowed := true }
def FltSortsUptoSaid : Prop := fltSortsUptoRow.holds Tryd.pinned (OpenSpec.upto fltSortsSpec)

end Rows
end Go.Proofs.YtcpfangcibilaaaDoor
