/- Digests of given bytes, reckoned. No condition. -/
import Derived.Test.YthlipmehnkhijaaHk
namespace Go.Proofs.Ythlipmehnkhijaa
set_option linter.unusedVariables false
set_option linter.unusedSimpArgs false
open Go.RowKit

set_option maxRecDepth 100000 in
theorem digest_nil_text : hexL (outs (blockF KS (padOf 0 0) HS) 32) = [101, 51, 98, 48, 99, 52, 52, 50, 57, 56, 102, 99, 49, 99, 49, 52, 57, 97, 102, 98, 102, 52, 99, 56, 57, 57, 54, 102, 98, 57, 50, 52, 50, 55, 97, 101, 52, 49, 101, 52, 54, 52, 57, 98, 57, 51, 52, 99, 97, 52, 57, 53, 57, 57, 49, 98, 55, 56, 53, 50, 98, 56, 53, 53] := by decide +kernel
end Go.Proofs.Ythlipmehnkhijaa
