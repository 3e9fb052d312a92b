/- The sizes and the nothings of the types. No condition. -/
import Derived.Test.YtgbgplhiiaiifaaDoorGd
namespace Go.Proofs.YtgbgplhiiaiifaaDoor
set_option linter.unusedVariables false
set_option linter.unusedSimpArgs false
open Go.RowKit
class Tsc (t : TypeId) : Prop where
  out : scalar (Tryd.prog.underlying t) = true
class Tsz (t : TypeId) (n : outParam Nat) : Prop where
  out : (Tryd.prog.info? t).map (·.size) = some n
class Tzr (t : TypeId) (z : outParam Value) : Prop where
  out : (Tryd.prog.info? t).map (·.zero) = some (some z)
class Tzi (t : TypeId) (z : outParam Value) (b : outParam Nat) : Prop where
  out : (Tryd.prog.info? t).map (fun i => (i.zero, i.size, i.bytes)) = some (some z, 1, b)
class Tun (t : TypeId) (e : outParam TypeId) : Prop where
  out : Tryd.prog.underlying t = some (.slice e)
class Tst (t : TypeId) (n : outParam Nat) : Prop where
  out : (Tryd.prog.info? t).map (·.size) = some n
instance st3 : Tst 3 1 := ⟨by kernel_rfl⟩
instance st27 : Tst 27 1 := ⟨by kernel_rfl⟩
instance st29 : Tst 29 1 := ⟨by kernel_rfl⟩
instance st49 : Tst 49 3 := ⟨by kernel_rfl⟩
instance st55 : Tst 55 5 := ⟨by kernel_rfl⟩
instance st62 : Tst 62 1 := ⟨by kernel_rfl⟩
instance st65 : Tst 65 18 := ⟨by kernel_rfl⟩
instance st69 : Tst 69 4 := ⟨by kernel_rfl⟩
instance st76 : Tst 76 3 := ⟨by kernel_rfl⟩
class Tar (t : TypeId) (n e : outParam Nat) : Prop where
  out : Tryd.prog.underlying t = some (.array n e)
instance ar63 : Tar 63 16 62 := ⟨Tryd.underlying63⟩
instance sz7 : Tsz 7 4 := ⟨by kernel_rfl⟩
instance sz8 : Tsz 8 4 := ⟨by kernel_rfl⟩
instance sz13 : Tsz 13 2 := ⟨by kernel_rfl⟩
instance sz14 : Tsz 14 2 := ⟨by kernel_rfl⟩
instance sz18 : Tsz 18 1 := ⟨by kernel_rfl⟩
instance sz19 : Tsz 19 1 := ⟨by kernel_rfl⟩
instance sz48 : Tsz 48 3 := ⟨by kernel_rfl⟩
instance sz49 : Tsz 49 3 := ⟨by kernel_rfl⟩
instance sz54 : Tsz 54 5 := ⟨by kernel_rfl⟩
instance sz55 : Tsz 55 5 := ⟨by kernel_rfl⟩
instance sz56 : Tsz 56 80 := ⟨by kernel_rfl⟩
instance sz57 : Tsz 57 82 := ⟨by kernel_rfl⟩
instance sz58 : Tsz 58 82 := ⟨by kernel_rfl⟩
instance sz63 : Tsz 63 16 := ⟨by kernel_rfl⟩
instance sz64 : Tsz 64 18 := ⟨by kernel_rfl⟩
instance sz65 : Tsz 65 18 := ⟨by kernel_rfl⟩
instance sz68 : Tsz 68 4 := ⟨by kernel_rfl⟩
instance sz69 : Tsz 69 4 := ⟨by kernel_rfl⟩
instance sz75 : Tsz 75 3 := ⟨by kernel_rfl⟩
instance sz76 : Tsz 76 3 := ⟨by kernel_rfl⟩
instance sz86 : Tsz 86 2 := ⟨by kernel_rfl⟩
instance sz87 : Tsz 87 2 := ⟨by kernel_rfl⟩
instance sz94 : Tsz 94 4 := ⟨by kernel_rfl⟩
instance sz95 : Tsz 95 4 := ⟨by kernel_rfl⟩
instance sz107 : Tsz 107 11 := ⟨by kernel_rfl⟩
instance sz108 : Tsz 108 11 := ⟨by kernel_rfl⟩
instance sz109 : Tsz 109 1 := ⟨by kernel_rfl⟩
instance sz110 : Tsz 110 1 := ⟨by kernel_rfl⟩
instance zr49 : Tzr 49 (.agg #[.int .i64 0, .int .i64 0, .slice none 0 0]) := ⟨by kernel_rfl⟩
instance zr55 : Tzr 55 (.agg #[.bool false, .int .i64 0, .int .i64 0, .slice none 0 0, .int .i64 0]) := ⟨by kernel_rfl⟩
instance zr56 : Tzr 56 (.agg #[.bool false, .int .i64 0, .int .i64 0, .slice none 0 0, .int .i64 0, .bool false, .int .i64 0, .int .i64 0, .slice none 0 0, .int .i64 0, .bool false, .int .i64 0, .int .i64 0, .slice none 0 0, .int .i64 0, .bool false, .int .i64 0, .int .i64 0, .slice none 0 0, .int .i64 0, .bool false, .int .i64 0, .int .i64 0, .slice none 0 0, .int .i64 0, .bool false, .int .i64 0, .int .i64 0, .slice none 0 0, .int .i64 0, .bool false, .int .i64 0, .int .i64 0, .slice none 0 0, .int .i64 0, .bool false, .int .i64 0, .int .i64 0, .slice none 0 0, .int .i64 0, .bool false, .int .i64 0, .int .i64 0, .slice none 0 0, .int .i64 0, .bool false, .int .i64 0, .int .i64 0, .slice none 0 0, .int .i64 0, .bool false, .int .i64 0, .int .i64 0, .slice none 0 0, .int .i64 0, .bool false, .int .i64 0, .int .i64 0, .slice none 0 0, .int .i64 0, .bool false, .int .i64 0, .int .i64 0, .slice none 0 0, .int .i64 0, .bool false, .int .i64 0, .int .i64 0, .slice none 0 0, .int .i64 0, .bool false, .int .i64 0, .int .i64 0, .slice none 0 0, .int .i64 0, .bool false, .int .i64 0, .int .i64 0, .slice none 0 0, .int .i64 0]) := ⟨by kernel_rfl⟩
instance zr63 : Tzr 63 (.agg #[.pointer none, .pointer none, .pointer none, .pointer none, .pointer none, .pointer none, .pointer none, .pointer none, .pointer none, .pointer none, .pointer none, .pointer none, .pointer none, .pointer none, .pointer none, .pointer none]) := ⟨by kernel_rfl⟩
instance zr65 : Tzr 65 (.agg #[.bool false, .int .i64 0, .pointer none, .pointer none, .pointer none, .pointer none, .pointer none, .pointer none, .pointer none, .pointer none, .pointer none, .pointer none, .pointer none, .pointer none, .pointer none, .pointer none, .pointer none, .pointer none]) := ⟨by kernel_rfl⟩
instance zr69 : Tzr 69 (.agg #[.int .i64 0, .int .i64 0, .int .i64 0, .slice none 0 0]) := ⟨by kernel_rfl⟩
instance zr76 : Tzr 76 (.agg #[.int .i64 0, .bool false, .int .i64 0]) := ⟨by kernel_rfl⟩
instance zi3 : Tzi 3 (.int .i64 0) 8 := ⟨by kernel_rfl⟩
instance zi4 : Tzi 4 (.bool false) 1 := ⟨by kernel_rfl⟩
instance zi29 : Tzi 29 (.nilIface) 16 := ⟨by kernel_rfl⟩
instance zi62 : Tzi 62 (.pointer none) 8 := ⟨by kernel_rfl⟩
instance sc3 : Tsc 3 := ⟨by kernel_rfl⟩
instance sc4 : Tsc 4 := ⟨by kernel_rfl⟩
instance sc25 : Tsc 25 := ⟨by kernel_rfl⟩
instance sc27 : Tsc 27 := ⟨by kernel_rfl⟩
instance sc29 : Tsc 29 := ⟨by kernel_rfl⟩
instance sc62 : Tsc 62 := ⟨by kernel_rfl⟩
instance un22 : Tun 22 4 := ⟨Tryd.underlying22⟩
instance un27 : Tun 27 3 := ⟨Tryd.underlying27⟩
instance un67 : Tun 67 62 := ⟨Tryd.underlying67⟩
instance un89 : Tun 89 29 := ⟨Tryd.underlying89⟩
end Go.Proofs.YtgbgplhiiaiifaaDoor
