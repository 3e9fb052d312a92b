/-
  No cell of these rows narrows 'for every input' (looked for: loops, veiled, ifaces, maps, wideKeys, modest, calm, conditions, laid).
  DERIVED. THE GIVEN ROWS OF THIS SEAT. 9 by the template 'for every input the law returns true; each argument reads behind the call as it read before'; 0 by the template 'total and deterministic' (their statements: YthlipmehnkhijaaTotals.lean).
  GIVEN WITH THE SEED: the statements are not yours to turn. If you find one false, say at which input.
  Laid BY PROGRAM, IN A SANDBOX (cutbox-rows.mjs): the forced cells as the released guide's own fill.sh prints them over the translation 11c278b008ea83d0… (all of the seat's roots in one cut). By AI agents, Wed Nov 11 2026. No macro, syntax, notation, axiom, sorry.
-/
import Derived.Test.YthlipmehnkhijaaChecked
import GoSem.Claim
import GoSem.ClaimJoined
import GoSem.ClaimMapViews
import Derived.JoinedTies
import Derived.KernelRfl
namespace Go.Proofs.Ythlipmehnkhijaa
/- THE CELL 'sum', in the pinned program and in every row, IS THE sha256 OF THE DUMP (.gsa) THAT YthlipmehnkhijaaProg.lean LOADS. Nothing in Lean hashes anything: it is a label: what it is worth is what the hold of that sum in a sandbox is worth. -/
noncomputable def Try.pinned : Pinned := { name := "ythlipmehnkhijaa", sum := "11c278b008ea83d030490d6e4b41854ec9cbe6b467f985cc21c57b7027e89a3b", checked := Try.checked }
namespace Rows
def none {H : Type} : Left H := { results := [], args := [] }

/-- 'lodgelaw1.ShaLengths': WHATEVER THE INPUT: true; the input reads as it did. -/
def shaLengthsSpec : ChangeSpec := { name := "shaLengths", fn := fun _ => fun
  | [d1, d2] => { results := [.lit (.bool true)], args := [d1, d2] }
  | _ => none }
def shaLengthsRow : OpenClaim := { program := "ythlipmehnkhijaa", sum := "11c278b008ea83d030490d6e4b41854ec9cbe6b467f985cc21c57b7027e89a3b", func := "lodge/lodgelaw1.ShaLengths", spec := "shaLengths", apart := false }
def ShaLengthsSaid : Prop := shaLengthsRow.holds Try.pinned (OpenSpec.ofChange shaLengthsSpec)

/-- ITS FALSE NEIGHBOUR: 'it returns false'. Refute it at one input. -/
def shaLengthsWrong : ChangeSpec := { name := "shaLengths", fn := fun _ => fun
  | [d1, d2] => { results := [.lit (.bool false)], args := [d1, d2] }
  | _ => none }
def ShaLengthsWrongFalsely : Prop := shaLengthsRow.holds Try.pinned (OpenSpec.ofChange shaLengthsWrong)

/-- 'lodgelaw1.ShaParts': WHATEVER THE INPUT: true; the input reads as it did. -/
def shaPartsSpec : ChangeSpec := { name := "shaParts", fn := fun _ => fun
  | [d1, d2] => { results := [.lit (.bool true)], args := [d1, d2] }
  | _ => none }
def shaPartsRow : OpenClaim := { program := "ythlipmehnkhijaa", sum := "11c278b008ea83d030490d6e4b41854ec9cbe6b467f985cc21c57b7027e89a3b", func := "lodge/lodgelaw1.ShaParts", spec := "shaParts", apart := false }
def ShaPartsSaid : Prop := shaPartsRow.holds Try.pinned (OpenSpec.ofChange shaPartsSpec)

/-- ITS FALSE NEIGHBOUR: 'it returns false'. Refute it at one input. -/
def shaPartsWrong : ChangeSpec := { name := "shaParts", fn := fun _ => fun
  | [d1, d2] => { results := [.lit (.bool false)], args := [d1, d2] }
  | _ => none }
def ShaPartsWrongFalsely : Prop := shaPartsRow.holds Try.pinned (OpenSpec.ofChange shaPartsWrong)

/-- 'lodgelaw1.ShaWrites': WHATEVER THE INPUT: true; the input reads as it did. -/
def shaWritesSpec : ChangeSpec := { name := "shaWrites", fn := fun _ => fun
  | [d1, d2] => { results := [.lit (.bool true)], args := [d1, d2] }
  | _ => none }
def shaWritesRow : OpenClaim := { program := "ythlipmehnkhijaa", sum := "11c278b008ea83d030490d6e4b41854ec9cbe6b467f985cc21c57b7027e89a3b", func := "lodge/lodgelaw1.ShaWrites", spec := "shaWrites", apart := false }
def ShaWritesSaid : Prop := shaWritesRow.holds Try.pinned (OpenSpec.ofChange shaWritesSpec)

/-- ITS FALSE NEIGHBOUR: 'it returns false'. Refute it at one input. -/
def shaWritesWrong : ChangeSpec := { name := "shaWrites", fn := fun _ => fun
  | [d1, d2] => { results := [.lit (.bool false)], args := [d1, d2] }
  | _ => none }
def ShaWritesWrongFalsely : Prop := shaWritesRow.holds Try.pinned (OpenSpec.ofChange shaWritesWrong)

/-- 'lodgelaw1.ShaTurns': WHATEVER THE INPUT: true; the input reads as it did. -/
def shaTurnsSpec : ChangeSpec := { name := "shaTurns", fn := fun _ => fun
  | [d1, d2] => { results := [.lit (.bool true)], args := [d1, d2] }
  | _ => none }
def shaTurnsRow : OpenClaim := { program := "ythlipmehnkhijaa", sum := "11c278b008ea83d030490d6e4b41854ec9cbe6b467f985cc21c57b7027e89a3b", func := "lodge/lodgelaw1.ShaTurns", spec := "shaTurns", apart := false }
def ShaTurnsSaid : Prop := shaTurnsRow.holds Try.pinned (OpenSpec.ofChange shaTurnsSpec)

/-- ITS FALSE NEIGHBOUR: 'it returns false'. Refute it at one input. -/
def shaTurnsWrong : ChangeSpec := { name := "shaTurns", fn := fun _ => fun
  | [d1, d2] => { results := [.lit (.bool false)], args := [d1, d2] }
  | _ => none }
def ShaTurnsWrongFalsely : Prop := shaTurnsRow.holds Try.pinned (OpenSpec.ofChange shaTurnsWrong)

/-- 'lodgelaw1.ShaSays': WHATEVER THE INPUT: true; the input reads as it did. -/
def shaSaysSpec : ChangeSpec := { name := "shaSays", fn := fun _ => fun
  | [d1, d2] => { results := [.lit (.bool true)], args := [d1, d2] }
  | _ => none }
def shaSaysRow : OpenClaim := { program := "ythlipmehnkhijaa", sum := "11c278b008ea83d030490d6e4b41854ec9cbe6b467f985cc21c57b7027e89a3b", func := "lodge/lodgelaw1.ShaSays", spec := "shaSays", apart := false }
def ShaSaysSaid : Prop := shaSaysRow.holds Try.pinned (OpenSpec.ofChange shaSaysSpec)

/-- ITS FALSE NEIGHBOUR: 'it returns false'. Refute it at one input. -/
def shaSaysWrong : ChangeSpec := { name := "shaSays", fn := fun _ => fun
  | [d1, d2] => { results := [.lit (.bool false)], args := [d1, d2] }
  | _ => none }
def ShaSaysWrongFalsely : Prop := shaSaysRow.holds Try.pinned (OpenSpec.ofChange shaSaysWrong)

/-- 'lodgelaw2.MacKeys': WHATEVER THE INPUT: true; the input reads as it did. -/
def macKeysSpec : ChangeSpec := { name := "macKeys", fn := fun _ => fun
  | [d1, d2, d3] => { results := [.lit (.bool true)], args := [d1, d2, d3] }
  | _ => none }
def macKeysRow : OpenClaim := { program := "ythlipmehnkhijaa", sum := "11c278b008ea83d030490d6e4b41854ec9cbe6b467f985cc21c57b7027e89a3b", func := "lodge/lodgelaw2.MacKeys", spec := "macKeys", apart := false }
def MacKeysSaid : Prop := macKeysRow.holds Try.pinned (OpenSpec.ofChange macKeysSpec)

/-- ITS FALSE NEIGHBOUR: 'it returns false'. Refute it at one input. -/
def macKeysWrong : ChangeSpec := { name := "macKeys", fn := fun _ => fun
  | [d1, d2, d3] => { results := [.lit (.bool false)], args := [d1, d2, d3] }
  | _ => none }
def MacKeysWrongFalsely : Prop := macKeysRow.holds Try.pinned (OpenSpec.ofChange macKeysWrong)

/-- 'lodgelaw2.MacSays': WHATEVER THE INPUT: true; the input reads as it did. -/
def macSaysSpec : ChangeSpec := { name := "macSays", fn := fun _ => fun
  | [d1, d2, d3] => { results := [.lit (.bool true)], args := [d1, d2, d3] }
  | _ => none }
def macSaysRow : OpenClaim := { program := "ythlipmehnkhijaa", sum := "11c278b008ea83d030490d6e4b41854ec9cbe6b467f985cc21c57b7027e89a3b", func := "lodge/lodgelaw2.MacSays", spec := "macSays", apart := false }
def MacSaysSaid : Prop := macSaysRow.holds Try.pinned (OpenSpec.ofChange macSaysSpec)

/-- ITS FALSE NEIGHBOUR: 'it returns false'. Refute it at one input. -/
def macSaysWrong : ChangeSpec := { name := "macSays", fn := fun _ => fun
  | [d1, d2, d3] => { results := [.lit (.bool false)], args := [d1, d2, d3] }
  | _ => none }
def MacSaysWrongFalsely : Prop := macSaysRow.holds Try.pinned (OpenSpec.ofChange macSaysWrong)

/-- 'lodgelaw2.MacParts': WHATEVER THE INPUT: true; the input reads as it did. -/
def macPartsSpec : ChangeSpec := { name := "macParts", fn := fun _ => fun
  | [d1, d2, d3] => { results := [.lit (.bool true)], args := [d1, d2, d3] }
  | _ => none }
def macPartsRow : OpenClaim := { program := "ythlipmehnkhijaa", sum := "11c278b008ea83d030490d6e4b41854ec9cbe6b467f985cc21c57b7027e89a3b", func := "lodge/lodgelaw2.MacParts", spec := "macParts", apart := false }
def MacPartsSaid : Prop := macPartsRow.holds Try.pinned (OpenSpec.ofChange macPartsSpec)

/-- ITS FALSE NEIGHBOUR: 'it returns false'. Refute it at one input. -/
def macPartsWrong : ChangeSpec := { name := "macParts", fn := fun _ => fun
  | [d1, d2, d3] => { results := [.lit (.bool false)], args := [d1, d2, d3] }
  | _ => none }
def MacPartsWrongFalsely : Prop := macPartsRow.holds Try.pinned (OpenSpec.ofChange macPartsWrong)

/-- 'lodgelaw2.MacSame': WHATEVER THE INPUT: true; the input reads as it did. -/
def macSameSpec : ChangeSpec := { name := "macSame", fn := fun _ => fun
  | [d1, d2, d3] => { results := [.lit (.bool true)], args := [d1, d2, d3] }
  | _ => none }
def macSameRow : OpenClaim := { program := "ythlipmehnkhijaa", sum := "11c278b008ea83d030490d6e4b41854ec9cbe6b467f985cc21c57b7027e89a3b", func := "lodge/lodgelaw2.MacSame", spec := "macSame", apart := false }
def MacSameSaid : Prop := macSameRow.holds Try.pinned (OpenSpec.ofChange macSameSpec)

/-- ITS FALSE NEIGHBOUR: 'it returns false'. Refute it at one input. -/
def macSameWrong : ChangeSpec := { name := "macSame", fn := fun _ => fun
  | [d1, d2, d3] => { results := [.lit (.bool false)], args := [d1, d2, d3] }
  | _ => none }
def MacSameWrongFalsely : Prop := macSameRow.holds Try.pinned (OpenSpec.ofChange macSameWrong)

/- THE SECOND FORM. 'bulk': how many values and letters a reading holds, each counted each time it is reached (what is shared counts as often as it is met; a slice's spare places count too). A statement '..UptoSaid' is the law's where the arguments, and the package variables that the reading takes, are together of bulk at most 1048576: NARROWER than '..Said'. Prove '..Said' where nothing that the law and all that it calls make is longer than what came in: it says more and counts as full. Else prove '..UptoSaid'. A law counts once. -/
mutual
def uptoBulk {H : Type} : DataW H → Nat
  | .lit (.string bytes) => bytes.length + 1
  | .lit _ => 1
  | .nil => 1
  | .ptr d => uptoBulk d + 1
  | .slice elems spare => uptoBulkAll elems + uptoBulkAll spare + 1
  | .agg parts => uptoBulkAll parts + 1
  | .iface _ d => uptoBulk d + 1
  | .map entries => uptoBulkEntries entries + 1
  | .held _ => 1
def uptoBulkAll {H : Type} : List (DataW H) → Nat
  | [] => 0
  | d :: r => uptoBulk d + uptoBulkAll r
def uptoBulkEntries {H : Type} : List (Lit × DataW H) → Nat
  | [] => 0
  | x :: r => uptoBulkEntry x + uptoBulkEntries r
def uptoBulkEntry {H : Type} : Lit × DataW H → Nat
  | (.string bytes, d) => bytes.length + uptoBulk d + 1
  | (_, d) => uptoBulk d + 1
 end
def uptoSmall : (H : Type) → List (DataW H) → Bool := fun _ ds => decide (uptoBulkAll ds ≤ 1048576)
def OpenSpec.upto (s : _root_.Go.ChangeSpec) : _root_.Go.OpenSpec := { _root_.Go.OpenSpec.ofChange s with cond := some uptoSmall }

/-- 'lodgelaw1.ShaLengths', WHERE WHAT IT READS IS OF BULK AT MOST 1048576: true; the input reads as it did. -/
def shaLengthsUptoRow : OpenClaim := { program := "ythlipmehnkhijaa", sum := "11c278b008ea83d030490d6e4b41854ec9cbe6b467f985cc21c57b7027e89a3b", func := "lodge/lodgelaw1.ShaLengths", spec := "shaLengths", apart := false, narrowed := true }
def ShaLengthsUptoSaid : Prop := shaLengthsUptoRow.holds Try.pinned (OpenSpec.upto shaLengthsSpec)

/-- 'lodgelaw1.ShaParts', WHERE WHAT IT READS IS OF BULK AT MOST 1048576: true; the input reads as it did. -/
def shaPartsUptoRow : OpenClaim := { program := "ythlipmehnkhijaa", sum := "11c278b008ea83d030490d6e4b41854ec9cbe6b467f985cc21c57b7027e89a3b", func := "lodge/lodgelaw1.ShaParts", spec := "shaParts", apart := false, narrowed := true }
def ShaPartsUptoSaid : Prop := shaPartsUptoRow.holds Try.pinned (OpenSpec.upto shaPartsSpec)

/-- 'lodgelaw1.ShaWrites', WHERE WHAT IT READS IS OF BULK AT MOST 1048576: true; the input reads as it did. -/
def shaWritesUptoRow : OpenClaim := { program := "ythlipmehnkhijaa", sum := "11c278b008ea83d030490d6e4b41854ec9cbe6b467f985cc21c57b7027e89a3b", func := "lodge/lodgelaw1.ShaWrites", spec := "shaWrites", apart := false, narrowed := true }
def ShaWritesUptoSaid : Prop := shaWritesUptoRow.holds Try.pinned (OpenSpec.upto shaWritesSpec)

/-- 'lodgelaw1.ShaTurns', WHERE WHAT IT READS IS OF BULK AT MOST 1048576: true; the input reads as it did. -/
def shaTurnsUptoRow : OpenClaim := { program := "ythlipmehnkhijaa", sum := "11c278b008ea83d030490d6e4b41854ec9cbe6b467f985cc21c57b7027e89a3b", func := "lodge/lodgelaw1.ShaTurns", spec := "shaTurns", apart := false, narrowed := true }
def ShaTurnsUptoSaid : Prop := shaTurnsUptoRow.holds Try.pinned (OpenSpec.upto shaTurnsSpec)

/-- 'lodgelaw1.ShaSays', WHERE WHAT IT READS IS OF BULK AT MOST 1048576: true; the input reads as it did. -/
def shaSaysUptoRow : OpenClaim := { program := "ythlipmehnkhijaa", sum := "11c278b008ea83d030490d6e4b41854ec9cbe6b467f985cc21c57b7027e89a3b", func := "lodge/lodgelaw1.ShaSays", spec := "shaSays", apart := false, narrowed := true }
def ShaSaysUptoSaid : Prop := shaSaysUptoRow.holds Try.pinned (OpenSpec.upto shaSaysSpec)

/-- 'lodgelaw2.MacKeys', WHERE WHAT IT READS IS OF BULK AT MOST 1048576: true; the input reads as it did. -/
def macKeysUptoRow : OpenClaim := { program := "ythlipmehnkhijaa", sum := "11c278b008ea83d030490d6e4b41854ec9cbe6b467f985cc21c57b7027e89a3b", func := "lodge/lodgelaw2.MacKeys", spec := "macKeys", apart := false, narrowed := true }
def MacKeysUptoSaid : Prop := macKeysUptoRow.holds Try.pinned (OpenSpec.upto macKeysSpec)

/-- 'lodgelaw2.MacSays', WHERE WHAT IT READS IS OF BULK AT MOST 1048576: true; the input reads as it did. -/
def macSaysUptoRow : OpenClaim := { program := "ythlipmehnkhijaa", sum := "11c278b008ea83d030490d6e4b41854ec9cbe6b467f985cc21c57b7027e89a3b", func := "lodge/lodgelaw2.MacSays", spec := "macSays", apart := false, narrowed := true }
def MacSaysUptoSaid : Prop := macSaysUptoRow.holds Try.pinned (OpenSpec.upto macSaysSpec)

/-- 'lodgelaw2.MacParts', WHERE WHAT IT READS IS OF BULK AT MOST 1048576: true; the input reads as it did. -/
def macPartsUptoRow : OpenClaim := { program := "ythlipmehnkhijaa", sum := "11c278b008ea83d030490d6e4b41854ec9cbe6b467f985cc21c57b7027e89a3b", func := "lodge/lodgelaw2.MacParts", spec := "macParts", apart := false, narrowed := true }
def MacPartsUptoSaid : Prop := macPartsUptoRow.holds Try.pinned (OpenSpec.upto macPartsSpec)

/-- 'lodgelaw2.MacSame', WHERE WHAT IT READS IS OF BULK AT MOST 1048576: true; the input reads as it did. -/
def macSameUptoRow : OpenClaim := { program := "ythlipmehnkhijaa", sum := "11c278b008ea83d030490d6e4b41854ec9cbe6b467f985cc21c57b7027e89a3b", func := "lodge/lodgelaw2.MacSame", spec := "macSame", apart := false, narrowed := true }
def MacSameUptoSaid : Prop := macSameUptoRow.holds Try.pinned (OpenSpec.upto macSameSpec)

end Rows
end Go.Proofs.Ythlipmehnkhijaa
