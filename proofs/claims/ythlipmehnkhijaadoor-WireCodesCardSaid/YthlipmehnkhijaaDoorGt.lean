/- The sizes and the nothings of the types. No condition. -/
import Derived.Test.YthlipmehnkhijaaDoorGd
namespace Go.Proofs.YthlipmehnkhijaaDoor
set_option linter.unusedVariables false
set_option linter.unusedSimpArgs false
open Go.RowKit
class Tsc (t : TypeId) : Prop where
  out : scalar (Tryd.prog.underlying t) = true
class Tsz (t : TypeId) (n : outParam Nat) : Prop where
  out : (Tryd.prog.info? t).map (·.size) = some n
class Tzr (t : TypeId) (z : outParam Value) : Prop where
  out : (Tryd.prog.info? t).map (·.zero) = some (some z)
class Tzi (t : TypeId) (z : outParam Value) (b : outParam Nat) : Prop where
  out : (Tryd.prog.info? t).map (fun i => (i.zero, i.size, i.bytes)) = some (some z, 1, b)
class Tun (t : TypeId) (e : outParam TypeId) : Prop where
  out : Tryd.prog.underlying t = some (.slice e)
class Tst (t : TypeId) (n : outParam Nat) : Prop where
  out : (Tryd.prog.info? t).map (·.size) = some n
instance st3 : Tst 3 1 := ⟨by kernel_rfl⟩
instance st5 : Tst 5 1 := ⟨by kernel_rfl⟩
instance st24 : Tst 24 1 := ⟨by kernel_rfl⟩
instance st26 : Tst 26 1 := ⟨by kernel_rfl⟩
instance st29 : Tst 29 1 := ⟨by kernel_rfl⟩
instance st31 : Tst 31 4 := ⟨by kernel_rfl⟩
instance st35 : Tst 35 5 := ⟨by kernel_rfl⟩
instance st40 : Tst 40 1 := ⟨by kernel_rfl⟩
instance st56 : Tst 56 32 := ⟨by kernel_rfl⟩
instance st67 : Tst 67 3 := ⟨by kernel_rfl⟩
instance st97 : Tst 97 64 := ⟨by kernel_rfl⟩
instance st102 : Tst 102 3 := ⟨by kernel_rfl⟩
instance st105 : Tst 105 1 := ⟨by kernel_rfl⟩
instance st112 : Tst 112 8 := ⟨by kernel_rfl⟩
instance st114 : Tst 114 10 := ⟨by kernel_rfl⟩
class Tar (t : TypeId) (n e : outParam Nat) : Prop where
  out : Tryd.prog.underlying t = some (.array n e)
instance ar56 : Tar 56 32 5 := ⟨Tryd.underlying56⟩
instance ar89 : Tar 89 64 5 := ⟨Tryd.underlying89⟩
instance ar97 : Tar 97 64 40 := ⟨Tryd.underlying97⟩
instance ar112 : Tar 112 8 40 := ⟨Tryd.underlying112⟩
instance sz7 : Tsz 7 4 := ⟨by kernel_rfl⟩
instance sz8 : Tsz 8 4 := ⟨by kernel_rfl⟩
instance sz13 : Tsz 13 2 := ⟨by kernel_rfl⟩
instance sz14 : Tsz 14 2 := ⟨by kernel_rfl⟩
instance sz18 : Tsz 18 1 := ⟨by kernel_rfl⟩
instance sz19 : Tsz 19 1 := ⟨by kernel_rfl⟩
instance sz30 : Tsz 30 4 := ⟨by kernel_rfl⟩
instance sz31 : Tsz 31 4 := ⟨by kernel_rfl⟩
instance sz34 : Tsz 34 5 := ⟨by kernel_rfl⟩
instance sz35 : Tsz 35 5 := ⟨by kernel_rfl⟩
instance sz56 : Tsz 56 32 := ⟨by kernel_rfl⟩
instance sz64 : Tsz 64 2 := ⟨by kernel_rfl⟩
instance sz65 : Tsz 65 2 := ⟨by kernel_rfl⟩
instance sz66 : Tsz 66 3 := ⟨by kernel_rfl⟩
instance sz67 : Tsz 67 3 := ⟨by kernel_rfl⟩
instance sz89 : Tsz 89 64 := ⟨by kernel_rfl⟩
instance sz97 : Tsz 97 64 := ⟨by kernel_rfl⟩
instance sz101 : Tsz 101 3 := ⟨by kernel_rfl⟩
instance sz102 : Tsz 102 3 := ⟨by kernel_rfl⟩
instance sz112 : Tsz 112 8 := ⟨by kernel_rfl⟩
instance sz113 : Tsz 113 10 := ⟨by kernel_rfl⟩
instance sz114 : Tsz 114 10 := ⟨by kernel_rfl⟩
instance sz119 : Tsz 119 1 := ⟨by kernel_rfl⟩
instance sz120 : Tsz 120 1 := ⟨by kernel_rfl⟩
instance sz135 : Tsz 135 4 := ⟨by kernel_rfl⟩
instance sz136 : Tsz 136 4 := ⟨by kernel_rfl⟩
instance sz147 : Tsz 147 11 := ⟨by kernel_rfl⟩
instance sz148 : Tsz 148 11 := ⟨by kernel_rfl⟩
instance sz151 : Tsz 151 2 := ⟨by kernel_rfl⟩
instance sz152 : Tsz 152 2 := ⟨by kernel_rfl⟩
instance sz153 : Tsz 153 1 := ⟨by kernel_rfl⟩
instance sz154 : Tsz 154 1 := ⟨by kernel_rfl⟩
instance sz158 : Tsz 158 5 := ⟨by kernel_rfl⟩
instance sz159 : Tsz 159 5 := ⟨by kernel_rfl⟩
instance sz162 : Tsz 162 4 := ⟨by kernel_rfl⟩
instance sz163 : Tsz 163 4 := ⟨by kernel_rfl⟩
instance zr31 : Tzr 31 (.agg #[.int .i64 0, .int .u64 0, .int .i64 0, .slice none 0 0]) := ⟨by kernel_rfl⟩
instance zr35 : Tzr 35 (.agg #[.int .u64 0, .int .i64 0, .int .i64 0, .slice none 0 0, .int .i64 0]) := ⟨by kernel_rfl⟩
instance zr56 : Tzr 56 (.agg #[.int .u8 0, .int .u8 0, .int .u8 0, .int .u8 0, .int .u8 0, .int .u8 0, .int .u8 0, .int .u8 0, .int .u8 0, .int .u8 0, .int .u8 0, .int .u8 0, .int .u8 0, .int .u8 0, .int .u8 0, .int .u8 0, .int .u8 0, .int .u8 0, .int .u8 0, .int .u8 0, .int .u8 0, .int .u8 0, .int .u8 0, .int .u8 0, .int .u8 0, .int .u8 0, .int .u8 0, .int .u8 0, .int .u8 0, .int .u8 0, .int .u8 0, .int .u8 0]) := ⟨by kernel_rfl⟩
instance zr63 : Tzr 63 (.pointer none) := ⟨by kernel_rfl⟩
instance zr67 : Tzr 67 (.agg #[.int .i64 0, .bool false, .int .i64 0]) := ⟨by kernel_rfl⟩
instance zr89 : Tzr 89 (.agg #[.int .u8 0, .int .u8 0, .int .u8 0, .int .u8 0, .int .u8 0, .int .u8 0, .int .u8 0, .int .u8 0, .int .u8 0, .int .u8 0, .int .u8 0, .int .u8 0, .int .u8 0, .int .u8 0, .int .u8 0, .int .u8 0, .int .u8 0, .int .u8 0, .int .u8 0, .int .u8 0, .int .u8 0, .int .u8 0, .int .u8 0, .int .u8 0, .int .u8 0, .int .u8 0, .int .u8 0, .int .u8 0, .int .u8 0, .int .u8 0, .int .u8 0, .int .u8 0, .int .u8 0, .int .u8 0, .int .u8 0, .int .u8 0, .int .u8 0, .int .u8 0, .int .u8 0, .int .u8 0, .int .u8 0, .int .u8 0, .int .u8 0, .int .u8 0, .int .u8 0, .int .u8 0, .int .u8 0, .int .u8 0, .int .u8 0, .int .u8 0, .int .u8 0, .int .u8 0, .int .u8 0, .int .u8 0, .int .u8 0, .int .u8 0, .int .u8 0, .int .u8 0, .int .u8 0, .int .u8 0, .int .u8 0, .int .u8 0, .int .u8 0, .int .u8 0]) := ⟨by kernel_rfl⟩
instance zr97 : Tzr 97 (.agg #[.int .u32 0, .int .u32 0, .int .u32 0, .int .u32 0, .int .u32 0, .int .u32 0, .int .u32 0, .int .u32 0, .int .u32 0, .int .u32 0, .int .u32 0, .int .u32 0, .int .u32 0, .int .u32 0, .int .u32 0, .int .u32 0, .int .u32 0, .int .u32 0, .int .u32 0, .int .u32 0, .int .u32 0, .int .u32 0, .int .u32 0, .int .u32 0, .int .u32 0, .int .u32 0, .int .u32 0, .int .u32 0, .int .u32 0, .int .u32 0, .int .u32 0, .int .u32 0, .int .u32 0, .int .u32 0, .int .u32 0, .int .u32 0, .int .u32 0, .int .u32 0, .int .u32 0, .int .u32 0, .int .u32 0, .int .u32 0, .int .u32 0, .int .u32 0, .int .u32 0, .int .u32 0, .int .u32 0, .int .u32 0, .int .u32 0, .int .u32 0, .int .u32 0, .int .u32 0, .int .u32 0, .int .u32 0, .int .u32 0, .int .u32 0, .int .u32 0, .int .u32 0, .int .u32 0, .int .u32 0, .int .u32 0, .int .u32 0, .int .u32 0, .int .u32 0]) := ⟨by kernel_rfl⟩
instance zr102 : Tzr 102 (.agg #[.pointer none, .pointer none, .int .u64 0]) := ⟨by kernel_rfl⟩
instance zr112 : Tzr 112 (.agg #[.int .u32 0, .int .u32 0, .int .u32 0, .int .u32 0, .int .u32 0, .int .u32 0, .int .u32 0, .int .u32 0]) := ⟨by kernel_rfl⟩
instance zr114 : Tzr 114 (.agg #[.int .u32 0, .int .u32 0, .int .u32 0, .int .u32 0, .int .u32 0, .int .u32 0, .int .u32 0, .int .u32 0, .slice none 0 0, .int .i64 0]) := ⟨by kernel_rfl⟩
instance zi3 : Tzi 3 (.int .i64 0) 8 := ⟨by kernel_rfl⟩
instance zi5 : Tzi 5 (.int .u8 0) 1 := ⟨by kernel_rfl⟩
instance zi24 : Tzi 24 (.slice none 0 0) 24 := ⟨by kernel_rfl⟩
instance zi26 : Tzi 26 (.nilIface) 16 := ⟨by kernel_rfl⟩
instance zi40 : Tzi 40 (.int .u32 0) 4 := ⟨by kernel_rfl⟩
instance sc3 : Tsc 3 := ⟨by kernel_rfl⟩
instance sc4 : Tsc 4 := ⟨by kernel_rfl⟩
instance sc5 : Tsc 5 := ⟨by kernel_rfl⟩
instance sc24 : Tsc 24 := ⟨by kernel_rfl⟩
instance sc26 : Tsc 26 := ⟨by kernel_rfl⟩
instance sc29 : Tsc 29 := ⟨by kernel_rfl⟩
instance sc40 : Tsc 40 := ⟨by kernel_rfl⟩
instance sc63 : Tsc 63 := ⟨by kernel_rfl⟩
instance sc105 : Tsc 105 := ⟨by kernel_rfl⟩
instance un24 : Tun 24 5 := ⟨Tryd.underlying24⟩
instance un59 : Tun 59 3 := ⟨Tryd.underlying59⟩
instance un79 : Tun 79 26 := ⟨Tryd.underlying79⟩
instance un88 : Tun 88 24 := ⟨Tryd.underlying88⟩
instance un95 : Tun 95 40 := ⟨Tryd.underlying95⟩
end Go.Proofs.YthlipmehnkhijaaDoor
