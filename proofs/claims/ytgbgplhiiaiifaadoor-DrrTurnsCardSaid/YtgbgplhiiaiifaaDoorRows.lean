/-
  NARROWER THAN 'FOR EVERY INPUT', by the rows' own cells (each row's printed sentence says how): DrrTurns: laid · DrrFair: laid · DrrSoon: laid · DrrKeeps: laid · DrrLeaves: laid · DrrPlays: laid.
  DERIVED. THE GIVEN ROWS OF THIS SEAT. 6 by the template 'for every input the law returns true; each argument reads behind the call as it read before'; 0 by the template 'total and deterministic' (their statements: YtgbgplhiiaiifaaDoorTotals.lean).
  GIVEN WITH THE SEED: the statements are not yours to turn. If you find one false, say at which input.
  Laid BY PROGRAM, IN A SANDBOX (cutbox-rows.mjs): the forced cells as the released guide's own fill.sh prints them over the translation 3cef479308ac0d49… (all of the seat's roots in one cut). By AI agents, Wed Nov 11 2026. No macro, syntax, notation, axiom, sorry.
-/
import Derived.Test.YtgbgplhiiaiifaaDoorChecked
import GoSem.Claim
import GoSem.ClaimJoined
import GoSem.ClaimMapViews
import Derived.JoinedTies
import Derived.KernelRfl
namespace Go.Proofs.YtgbgplhiiaiifaaDoor
/- THE CELL 'sum', in the pinned program and in every row, IS THE sha256 OF THE DUMP (.gsa) THAT YtgbgplhiiaiifaaDoorProg.lean LOADS. Nothing in Lean hashes anything: it is a label: what it is worth is what the hold of that sum in a sandbox is worth. -/
noncomputable def Tryd.pinned : Pinned := { name := "ytgbgplhiiaiifaadoor", sum := "3cef479308ac0d49d45c1ea1c484aeecd1aa00fd5817f96158894f484a299ac2", checked := Tryd.checked }
namespace Rows
def none {H : Type} : Left H := { results := [], args := [] }

/- WHAT THE LISTED PACKAGE-LEVEL VARIABLES READ AS WHEN THE CALL BEGINS. Each datum BY PROGRAM (the guide's laid-datum.mjs) off the statement by which the dump's own 'gosem.cut.vars' lays the variable. In a bare row this is a premise. The card (YtgbgplhiiaiifaaDoorCards.lean) ties it to the program's text. -/
def laid_lodge_api_ErrRange {H : Type} : DataW H := .iface "*errors.errorString" (.ptr (.agg [.lit (.string [97, 32, 110, 117, 109, 98, 101, 114, 32, 111, 117, 116, 32, 111, 102, 32, 105, 116, 115, 32, 114, 97, 110, 103, 101])]))
def laid_lodge_api_ErrMany {H : Type} : DataW H := .iface "*errors.errorString" (.ptr (.agg [.lit (.string [116, 111, 111, 32, 109, 97, 110, 121])]))
def laid_lodge_api_ErrNone {H : Type} : DataW H := .iface "*errors.errorString" (.ptr (.agg [.lit (.string [116, 104, 101, 114, 101, 32, 105, 115, 32, 110, 111, 110, 101])]))
def laid_lodge_api_ErrShape {H : Type} : DataW H := .iface "*errors.errorString" (.ptr (.agg [.lit (.string [110, 111, 116, 32, 116, 104, 101, 32, 115, 104, 97, 112, 101, 32, 116, 104, 97, 116, 32, 105, 116, 32, 104, 97, 115, 32, 116, 111, 32, 104, 97, 118, 101])]))
def laid_lodge_api_ErrKind {H : Type} : DataW H := .iface "*errors.errorString" (.ptr (.agg [.lit (.string [110, 111, 32, 115, 117, 99, 104, 32, 107, 105, 110, 100])]))
def laid_lodge_api_ErrEnd {H : Type} : DataW H := .iface "*errors.errorString" (.ptr (.agg [.lit (.string [105, 116, 32, 101, 110, 100, 115, 32, 116, 111, 111, 32, 101, 97, 114, 108, 121])]))
def laid_lodge_api_ErrRoom {H : Type} : DataW H := .iface "*errors.errorString" (.ptr (.agg [.lit (.string [116, 104, 101, 114, 101, 32, 105, 115, 32, 110, 111, 32, 114, 111, 111, 109])]))
def laid_lodge_api_ErrAlias {H : Type} : DataW H := .iface "*errors.errorString" (.ptr (.agg [.lit (.string [105, 116, 32, 108, 105, 101, 115, 32, 111, 118, 101, 114, 32, 119, 104, 97, 116, 32, 105, 115, 32, 114, 101, 97, 100])]))
def laid_lodge_api_ErrCost {H : Type} : DataW H := .iface "*errors.errorString" (.ptr (.agg [.lit (.string [105, 116, 32, 99, 111, 115, 116, 115, 32, 116, 111, 111, 32, 109, 117, 99, 104])]))
def laid_lodge_api_ErrJump {H : Type} : DataW H := .iface "*errors.errorString" (.ptr (.agg [.lit (.string [105, 116, 32, 103, 111, 101, 115, 32, 119, 104, 101, 114, 101, 32, 116, 104, 101, 114, 101, 32, 105, 115, 32, 110, 111, 116, 104, 105, 110, 103])]))
def laid_lodge_api_ErrCycle {H : Type} : DataW H := .iface "*errors.errorString" (.ptr (.agg [.lit (.string [105, 116, 32, 103, 111, 101, 115, 32, 114, 111, 117, 110, 100, 32, 105, 110, 32, 97, 32, 114, 105, 110, 103])]))
def laid_lodge_api_ErrFuel {H : Type} : DataW H := .iface "*errors.errorString" (.ptr (.agg [.lit (.string [110, 111, 32, 102, 117, 101, 108, 32, 105, 115, 32, 108, 101, 102, 116])]))
def laid_lodge_api_ErrFull {H : Type} : DataW H := .iface "*errors.errorString" (.ptr (.agg [.lit (.string [116, 104, 101, 32, 113, 117, 101, 117, 101, 32, 105, 115, 32, 102, 117, 108, 108])]))
def laid_lodge_api_ErrQuota {H : Type} : DataW H := .iface "*errors.errorString" (.ptr (.agg [.lit (.string [98, 101, 121, 111, 110, 100, 32, 116, 104, 101, 32, 113, 117, 111, 116, 97])]))
def laid_lodge_api_ErrCap {H : Type} : DataW H := .iface "*errors.errorString" (.ptr (.agg [.lit (.string [110, 111, 32, 115, 117, 99, 104, 32, 114, 105, 103, 104, 116])]))
def laid_lodge_api_ErrStale {H : Type} : DataW H := .iface "*errors.errorString" (.ptr (.agg [.lit (.string [111, 102, 32, 97, 110, 32, 101, 108, 100, 101, 114, 32, 103, 101, 110, 101, 114, 97, 116, 105, 111, 110])]))
def laid_lodge_api_ErrTag {H : Type} : DataW H := .iface "*errors.errorString" (.ptr (.agg [.lit (.string [116, 104, 101, 32, 116, 97, 103, 32, 105, 115, 32, 97, 110, 111, 116, 104, 101, 114, 32, 111, 110, 101])]))
def laid_lodge_api_ErrOld {H : Type} : DataW H := .iface "*errors.errorString" (.ptr (.agg [.lit (.string [97, 32, 99, 111, 117, 110, 116, 101, 114, 32, 116, 104, 97, 116, 32, 105, 115, 32, 110, 111, 116, 32, 97, 98, 111, 118, 101, 32, 116, 104, 101, 32, 108, 97, 115, 116, 32, 111, 110, 101])]))
def laid_lodge_api_ErrTenant {H : Type} : DataW H := .iface "*errors.errorString" (.ptr (.agg [.lit (.string [110, 111, 32, 115, 117, 99, 104, 32, 116, 101, 110, 97, 110, 116])]))
def laid_lodge_api_ErrWord {H : Type} : DataW H := .iface "*errors.errorString" (.ptr (.agg [.lit (.string [110, 111, 32, 115, 117, 99, 104, 32, 119, 111, 114, 100])]))
def laid_lodge_api_ErrNumber {H : Type} : DataW H := .iface "*errors.errorString" (.ptr (.agg [.lit (.string [110, 111, 32, 115, 117, 99, 104, 32, 110, 117, 109, 98, 101, 114])]))

/-- 'lodgelaw25.DrrTurns': WHATEVER THE INPUT: true; the input reads as it did. -/
def drrTurnsSpec : ChangeSpec := { name := "drrTurns", fn := fun _ => fun
  | [d1, d2, d3] => { results := [.lit (.bool true)], args := [d1, d2, d3] }
  | _ => none }
def drrTurnsRow : OpenClaim := { program := "ytgbgplhiiaiifaadoor", sum := "3cef479308ac0d49d45c1ea1c484aeecd1aa00fd5817f96158894f484a299ac2", func := "lodge/lodgelaw25.DrrTurns", spec := "drrTurns", unfollowed := true, recurses := true, named := ["lodge/api.ErrRange", "lodge/api.ErrMany", "lodge/api.ErrNone"], apart := false, laid := [("lodge/api.ErrRange", laid_lodge_api_ErrRange), ("lodge/api.ErrMany", laid_lodge_api_ErrMany), ("lodge/api.ErrNone", laid_lodge_api_ErrNone)] }
def DrrTurnsSaid : Prop := drrTurnsRow.holds Tryd.pinned (OpenSpec.ofChange drrTurnsSpec)

/-- ITS FALSE NEIGHBOUR: 'it returns false'. Refute it at one input. -/
def drrTurnsWrong : ChangeSpec := { name := "drrTurns", fn := fun _ => fun
  | [d1, d2, d3] => { results := [.lit (.bool false)], args := [d1, d2, d3] }
  | _ => none }
def DrrTurnsWrongFalsely : Prop := drrTurnsRow.holds Tryd.pinned (OpenSpec.ofChange drrTurnsWrong)

/-- 'lodgelaw25.DrrFair': WHATEVER THE INPUT: true; the input reads as it did. -/
def drrFairSpec : ChangeSpec := { name := "drrFair", fn := fun _ => fun
  | [d1, d2, d3, d4] => { results := [.lit (.bool true)], args := [d1, d2, d3, d4] }
  | _ => none }
def drrFairRow : OpenClaim := { program := "ytgbgplhiiaiifaadoor", sum := "3cef479308ac0d49d45c1ea1c484aeecd1aa00fd5817f96158894f484a299ac2", func := "lodge/lodgelaw25.DrrFair", spec := "drrFair", unfollowed := true, recurses := true, named := ["lodge/api.ErrRange", "lodge/api.ErrMany", "lodge/api.ErrNone"], apart := false, laid := [("lodge/api.ErrRange", laid_lodge_api_ErrRange), ("lodge/api.ErrMany", laid_lodge_api_ErrMany), ("lodge/api.ErrNone", laid_lodge_api_ErrNone)] }
def DrrFairSaid : Prop := drrFairRow.holds Tryd.pinned (OpenSpec.ofChange drrFairSpec)

/-- ITS FALSE NEIGHBOUR: 'it returns false'. Refute it at one input. -/
def drrFairWrong : ChangeSpec := { name := "drrFair", fn := fun _ => fun
  | [d1, d2, d3, d4] => { results := [.lit (.bool false)], args := [d1, d2, d3, d4] }
  | _ => none }
def DrrFairWrongFalsely : Prop := drrFairRow.holds Tryd.pinned (OpenSpec.ofChange drrFairWrong)

/-- 'lodgelaw25.DrrSoon': WHATEVER THE INPUT: true; the input reads as it did. -/
def drrSoonSpec : ChangeSpec := { name := "drrSoon", fn := fun _ => fun
  | [d1, d2, d3, d4] => { results := [.lit (.bool true)], args := [d1, d2, d3, d4] }
  | _ => none }
def drrSoonRow : OpenClaim := { program := "ytgbgplhiiaiifaadoor", sum := "3cef479308ac0d49d45c1ea1c484aeecd1aa00fd5817f96158894f484a299ac2", func := "lodge/lodgelaw25.DrrSoon", spec := "drrSoon", unfollowed := true, recurses := true, named := ["lodge/api.ErrRange", "lodge/api.ErrMany", "lodge/api.ErrNone"], apart := false, laid := [("lodge/api.ErrRange", laid_lodge_api_ErrRange), ("lodge/api.ErrMany", laid_lodge_api_ErrMany), ("lodge/api.ErrNone", laid_lodge_api_ErrNone)] }
def DrrSoonSaid : Prop := drrSoonRow.holds Tryd.pinned (OpenSpec.ofChange drrSoonSpec)

/-- ITS FALSE NEIGHBOUR: 'it returns false'. Refute it at one input. -/
def drrSoonWrong : ChangeSpec := { name := "drrSoon", fn := fun _ => fun
  | [d1, d2, d3, d4] => { results := [.lit (.bool false)], args := [d1, d2, d3, d4] }
  | _ => none }
def DrrSoonWrongFalsely : Prop := drrSoonRow.holds Tryd.pinned (OpenSpec.ofChange drrSoonWrong)

/-- 'lodgelaw25.DrrKeeps': WHATEVER THE INPUT: true; the input reads as it did. -/
def drrKeepsSpec : ChangeSpec := { name := "drrKeeps", fn := fun _ => fun
  | [d1, d2, d3] => { results := [.lit (.bool true)], args := [d1, d2, d3] }
  | _ => none }
def drrKeepsRow : OpenClaim := { program := "ytgbgplhiiaiifaadoor", sum := "3cef479308ac0d49d45c1ea1c484aeecd1aa00fd5817f96158894f484a299ac2", func := "lodge/lodgelaw25.DrrKeeps", spec := "drrKeeps", unfollowed := true, recurses := true, named := ["lodge/api.ErrRange", "lodge/api.ErrMany", "lodge/api.ErrNone"], apart := false, laid := [("lodge/api.ErrRange", laid_lodge_api_ErrRange), ("lodge/api.ErrMany", laid_lodge_api_ErrMany), ("lodge/api.ErrNone", laid_lodge_api_ErrNone)] }
def DrrKeepsSaid : Prop := drrKeepsRow.holds Tryd.pinned (OpenSpec.ofChange drrKeepsSpec)

/-- ITS FALSE NEIGHBOUR: 'it returns false'. Refute it at one input. -/
def drrKeepsWrong : ChangeSpec := { name := "drrKeeps", fn := fun _ => fun
  | [d1, d2, d3] => { results := [.lit (.bool false)], args := [d1, d2, d3] }
  | _ => none }
def DrrKeepsWrongFalsely : Prop := drrKeepsRow.holds Tryd.pinned (OpenSpec.ofChange drrKeepsWrong)

/-- 'lodgelaw25.DrrLeaves': WHATEVER THE INPUT: true; the input reads as it did. -/
def drrLeavesSpec : ChangeSpec := { name := "drrLeaves", fn := fun _ => fun
  | [d1, d2, d3] => { results := [.lit (.bool true)], args := [d1, d2, d3] }
  | _ => none }
def drrLeavesRow : OpenClaim := { program := "ytgbgplhiiaiifaadoor", sum := "3cef479308ac0d49d45c1ea1c484aeecd1aa00fd5817f96158894f484a299ac2", func := "lodge/lodgelaw25.DrrLeaves", spec := "drrLeaves", unfollowed := true, recurses := true, named := ["lodge/api.ErrRange", "lodge/api.ErrMany", "lodge/api.ErrNone"], apart := false, laid := [("lodge/api.ErrRange", laid_lodge_api_ErrRange), ("lodge/api.ErrMany", laid_lodge_api_ErrMany), ("lodge/api.ErrNone", laid_lodge_api_ErrNone)] }
def DrrLeavesSaid : Prop := drrLeavesRow.holds Tryd.pinned (OpenSpec.ofChange drrLeavesSpec)

/-- ITS FALSE NEIGHBOUR: 'it returns false'. Refute it at one input. -/
def drrLeavesWrong : ChangeSpec := { name := "drrLeaves", fn := fun _ => fun
  | [d1, d2, d3] => { results := [.lit (.bool false)], args := [d1, d2, d3] }
  | _ => none }
def DrrLeavesWrongFalsely : Prop := drrLeavesRow.holds Tryd.pinned (OpenSpec.ofChange drrLeavesWrong)

/-- 'lodgelaw25.DrrPlays': WHATEVER THE INPUT: true; the input reads as it did. -/
def drrPlaysSpec : ChangeSpec := { name := "drrPlays", fn := fun _ => fun
  | [d1, d2] => { results := [.lit (.bool true)], args := [d1, d2] }
  | _ => none }
def drrPlaysRow : OpenClaim := { program := "ytgbgplhiiaiifaadoor", sum := "3cef479308ac0d49d45c1ea1c484aeecd1aa00fd5817f96158894f484a299ac2", func := "lodge/lodgelaw25.DrrPlays", spec := "drrPlays", unfollowed := true, recurses := true, named := ["lodge/api.ErrRange", "lodge/api.ErrMany", "lodge/api.ErrNone", "lodge/api.ErrShape", "lodge/api.ErrKind", "lodge/api.ErrEnd", "lodge/api.ErrRoom", "lodge/api.ErrAlias", "lodge/api.ErrCost", "lodge/api.ErrJump", "lodge/api.ErrCycle", "lodge/api.ErrFuel", "lodge/api.ErrFull", "lodge/api.ErrQuota", "lodge/api.ErrCap", "lodge/api.ErrStale", "lodge/api.ErrTag", "lodge/api.ErrOld", "lodge/api.ErrTenant", "lodge/api.ErrWord", "lodge/api.ErrNumber"], apart := false, laid := [("lodge/api.ErrShape", laid_lodge_api_ErrShape), ("lodge/api.ErrRange", laid_lodge_api_ErrRange), ("lodge/api.ErrKind", laid_lodge_api_ErrKind), ("lodge/api.ErrMany", laid_lodge_api_ErrMany), ("lodge/api.ErrEnd", laid_lodge_api_ErrEnd), ("lodge/api.ErrRoom", laid_lodge_api_ErrRoom), ("lodge/api.ErrNone", laid_lodge_api_ErrNone), ("lodge/api.ErrAlias", laid_lodge_api_ErrAlias), ("lodge/api.ErrCost", laid_lodge_api_ErrCost), ("lodge/api.ErrJump", laid_lodge_api_ErrJump), ("lodge/api.ErrCycle", laid_lodge_api_ErrCycle), ("lodge/api.ErrFuel", laid_lodge_api_ErrFuel), ("lodge/api.ErrFull", laid_lodge_api_ErrFull), ("lodge/api.ErrQuota", laid_lodge_api_ErrQuota), ("lodge/api.ErrCap", laid_lodge_api_ErrCap), ("lodge/api.ErrStale", laid_lodge_api_ErrStale), ("lodge/api.ErrTag", laid_lodge_api_ErrTag), ("lodge/api.ErrOld", laid_lodge_api_ErrOld), ("lodge/api.ErrTenant", laid_lodge_api_ErrTenant), ("lodge/api.ErrWord", laid_lodge_api_ErrWord), ("lodge/api.ErrNumber", laid_lodge_api_ErrNumber)] }
def DrrPlaysSaid : Prop := drrPlaysRow.holds Tryd.pinned (OpenSpec.ofChange drrPlaysSpec)

/-- ITS FALSE NEIGHBOUR: 'it returns false'. Refute it at one input. -/
def drrPlaysWrong : ChangeSpec := { name := "drrPlays", fn := fun _ => fun
  | [d1, d2] => { results := [.lit (.bool false)], args := [d1, d2] }
  | _ => none }
def DrrPlaysWrongFalsely : Prop := drrPlaysRow.holds Tryd.pinned (OpenSpec.ofChange drrPlaysWrong)

/- THE SECOND FORM. 'bulk': how many values and letters a reading holds, each counted each time it is reached (what is shared counts as often as it is met; a slice's spare places count too). A statement '..UptoSaid' is the law's where the arguments, and the package variables that the reading takes, are together of bulk at most 1048576: NARROWER than '..Said'. Prove '..Said' where nothing that the law and all that it calls make is longer than what came in: it says more and counts as full. Else prove '..UptoSaid'. A law counts once. -/
mutual
def uptoBulk {H : Type} : DataW H → Nat
  | .lit (.string bytes) => bytes.length + 1
  | .lit _ => 1
  | .nil => 1
  | .ptr d => uptoBulk d + 1
  | .slice elems spare => uptoBulkAll elems + uptoBulkAll spare + 1
  | .agg parts => uptoBulkAll parts + 1
  | .iface _ d => uptoBulk d + 1
  | .map entries => uptoBulkEntries entries + 1
  | .held _ => 1
def uptoBulkAll {H : Type} : List (DataW H) → Nat
  | [] => 0
  | d :: r => uptoBulk d + uptoBulkAll r
def uptoBulkEntries {H : Type} : List (Lit × DataW H) → Nat
  | [] => 0
  | x :: r => uptoBulkEntry x + uptoBulkEntries r
def uptoBulkEntry {H : Type} : Lit × DataW H → Nat
  | (.string bytes, d) => bytes.length + uptoBulk d + 1
  | (_, d) => uptoBulk d + 1
 end
def uptoSmall : (H : Type) → List (DataW H) → Bool := fun _ ds => decide (uptoBulkAll ds ≤ 1048576)
def OpenSpec.upto (s : _root_.Go.ChangeSpec) : _root_.Go.OpenSpec := { _root_.Go.OpenSpec.ofChange s with cond := some uptoSmall }

/-- 'lodgelaw25.DrrTurns', WHERE WHAT IT READS IS OF BULK AT MOST 1048576: true; the input reads as it did. -/
def drrTurnsUptoRow : OpenClaim := { program := "ytgbgplhiiaiifaadoor", sum := "3cef479308ac0d49d45c1ea1c484aeecd1aa00fd5817f96158894f484a299ac2", func := "lodge/lodgelaw25.DrrTurns", spec := "drrTurns", unfollowed := true, recurses := true, named := ["lodge/api.ErrRange", "lodge/api.ErrMany", "lodge/api.ErrNone"], apart := false, laid := [("lodge/api.ErrRange", laid_lodge_api_ErrRange), ("lodge/api.ErrMany", laid_lodge_api_ErrMany), ("lodge/api.ErrNone", laid_lodge_api_ErrNone)], narrowed := true }
def DrrTurnsUptoSaid : Prop := drrTurnsUptoRow.holds Tryd.pinned (OpenSpec.upto drrTurnsSpec)

/-- 'lodgelaw25.DrrFair', WHERE WHAT IT READS IS OF BULK AT MOST 1048576: true; the input reads as it did. -/
def drrFairUptoRow : OpenClaim := { program := "ytgbgplhiiaiifaadoor", sum := "3cef479308ac0d49d45c1ea1c484aeecd1aa00fd5817f96158894f484a299ac2", func := "lodge/lodgelaw25.DrrFair", spec := "drrFair", unfollowed := true, recurses := true, named := ["lodge/api.ErrRange", "lodge/api.ErrMany", "lodge/api.ErrNone"], apart := false, laid := [("lodge/api.ErrRange", laid_lodge_api_ErrRange), ("lodge/api.ErrMany", laid_lodge_api_ErrMany), ("lodge/api.ErrNone", laid_lodge_api_ErrNone)], narrowed := true }
def DrrFairUptoSaid : Prop := drrFairUptoRow.holds Tryd.pinned (OpenSpec.upto drrFairSpec)

/-- 'lodgelaw25.DrrSoon', WHERE WHAT IT READS IS OF BULK AT MOST 1048576: true; the input reads as it did. -/
def drrSoonUptoRow : OpenClaim := { program := "ytgbgplhiiaiifaadoor", sum := "3cef479308ac0d49d45c1ea1c484aeecd1aa00fd5817f96158894f484a299ac2", func := "lodge/lodgelaw25.DrrSoon", spec := "drrSoon", unfollowed := true, recurses := true, named := ["lodge/api.ErrRange", "lodge/api.ErrMany", "lodge/api.ErrNone"], apart := false, laid := [("lodge/api.ErrRange", laid_lodge_api_ErrRange), ("lodge/api.ErrMany", laid_lodge_api_ErrMany), ("lodge/api.ErrNone", laid_lodge_api_ErrNone)], narrowed := true }
def DrrSoonUptoSaid : Prop := drrSoonUptoRow.holds Tryd.pinned (OpenSpec.upto drrSoonSpec)

/-- 'lodgelaw25.DrrKeeps', WHERE WHAT IT READS IS OF BULK AT MOST 1048576: true; the input reads as it did. -/
def drrKeepsUptoRow : OpenClaim := { program := "ytgbgplhiiaiifaadoor", sum := "3cef479308ac0d49d45c1ea1c484aeecd1aa00fd5817f96158894f484a299ac2", func := "lodge/lodgelaw25.DrrKeeps", spec := "drrKeeps", unfollowed := true, recurses := true, named := ["lodge/api.ErrRange", "lodge/api.ErrMany", "lodge/api.ErrNone"], apart := false, laid := [("lodge/api.ErrRange", laid_lodge_api_ErrRange), ("lodge/api.ErrMany", laid_lodge_api_ErrMany), ("lodge/api.ErrNone", laid_lodge_api_ErrNone)], narrowed := true }
def DrrKeepsUptoSaid : Prop := drrKeepsUptoRow.holds Tryd.pinned (OpenSpec.upto drrKeepsSpec)

/-- 'lodgelaw25.DrrLeaves', WHERE WHAT IT READS IS OF BULK AT MOST 1048576: true; the input reads as it did. -/
def drrLeavesUptoRow : OpenClaim := { program := "ytgbgplhiiaiifaadoor", sum := "3cef479308ac0d49d45c1ea1c484aeecd1aa00fd5817f96158894f484a299ac2", func := "lodge/lodgelaw25.DrrLeaves", spec := "drrLeaves", unfollowed := true, recurses := true, named := ["lodge/api.ErrRange", "lodge/api.ErrMany", "lodge/api.ErrNone"], apart := false, laid := [("lodge/api.ErrRange", laid_lodge_api_ErrRange), ("lodge/api.ErrMany", laid_lodge_api_ErrMany), ("lodge/api.ErrNone", laid_lodge_api_ErrNone)], narrowed := true }
def DrrLeavesUptoSaid : Prop := drrLeavesUptoRow.holds Tryd.pinned (OpenSpec.upto drrLeavesSpec)

/-- 'lodgelaw25.DrrPlays', WHERE WHAT IT READS IS OF BULK AT MOST 1048576: true; the input reads as it did. -/
def drrPlaysUptoRow : OpenClaim := { program := "ytgbgplhiiaiifaadoor", sum := "3cef479308ac0d49d45c1ea1c484aeecd1aa00fd5817f96158894f484a299ac2", func := "lodge/lodgelaw25.DrrPlays", spec := "drrPlays", unfollowed := true, recurses := true, named := ["lodge/api.ErrRange", "lodge/api.ErrMany", "lodge/api.ErrNone", "lodge/api.ErrShape", "lodge/api.ErrKind", "lodge/api.ErrEnd", "lodge/api.ErrRoom", "lodge/api.ErrAlias", "lodge/api.ErrCost", "lodge/api.ErrJump", "lodge/api.ErrCycle", "lodge/api.ErrFuel", "lodge/api.ErrFull", "lodge/api.ErrQuota", "lodge/api.ErrCap", "lodge/api.ErrStale", "lodge/api.ErrTag", "lodge/api.ErrOld", "lodge/api.ErrTenant", "lodge/api.ErrWord", "lodge/api.ErrNumber"], apart := false, laid := [("lodge/api.ErrShape", laid_lodge_api_ErrShape), ("lodge/api.ErrRange", laid_lodge_api_ErrRange), ("lodge/api.ErrKind", laid_lodge_api_ErrKind), ("lodge/api.ErrMany", laid_lodge_api_ErrMany), ("lodge/api.ErrEnd", laid_lodge_api_ErrEnd), ("lodge/api.ErrRoom", laid_lodge_api_ErrRoom), ("lodge/api.ErrNone", laid_lodge_api_ErrNone), ("lodge/api.ErrAlias", laid_lodge_api_ErrAlias), ("lodge/api.ErrCost", laid_lodge_api_ErrCost), ("lodge/api.ErrJump", laid_lodge_api_ErrJump), ("lodge/api.ErrCycle", laid_lodge_api_ErrCycle), ("lodge/api.ErrFuel", laid_lodge_api_ErrFuel), ("lodge/api.ErrFull", laid_lodge_api_ErrFull), ("lodge/api.ErrQuota", laid_lodge_api_ErrQuota), ("lodge/api.ErrCap", laid_lodge_api_ErrCap), ("lodge/api.ErrStale", laid_lodge_api_ErrStale), ("lodge/api.ErrTag", laid_lodge_api_ErrTag), ("lodge/api.ErrOld", laid_lodge_api_ErrOld), ("lodge/api.ErrTenant", laid_lodge_api_ErrTenant), ("lodge/api.ErrWord", laid_lodge_api_ErrWord), ("lodge/api.ErrNumber", laid_lodge_api_ErrNumber)], narrowed := true }
def DrrPlaysUptoSaid : Prop := drrPlaysUptoRow.holds Tryd.pinned (OpenSpec.upto drrPlaysSpec)

end Rows
end Go.Proofs.YtgbgplhiiaiifaaDoor
