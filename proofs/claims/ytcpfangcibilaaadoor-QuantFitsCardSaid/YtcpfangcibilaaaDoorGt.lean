/- The sizes and the nothings of the types. No condition. -/
import Derived.Test.YtcpfangcibilaaaDoorGd
namespace Go.Proofs.YtcpfangcibilaaaDoor
set_option linter.unusedVariables false
set_option linter.unusedSimpArgs false
open Go.RowKit
class Tsc (t : TypeId) : Prop where
  out : scalar (Tryd.prog.underlying t) = true
class Tsz (t : TypeId) (n : outParam Nat) : Prop where
  out : (Tryd.prog.info? t).map (·.size) = some n
class Tzr (t : TypeId) (z : outParam Value) : Prop where
  out : (Tryd.prog.info? t).map (·.zero) = some (some z)
class Tzi (t : TypeId) (z : outParam Value) (b : outParam Nat) : Prop where
  out : (Tryd.prog.info? t).map (fun i => (i.zero, i.size, i.bytes)) = some (some z, 1, b)
class Tun (t : TypeId) (e : outParam TypeId) : Prop where
  out : Tryd.prog.underlying t = some (.slice e)
class Tst (t : TypeId) (n : outParam Nat) : Prop where
  out : (Tryd.prog.info? t).map (·.size) = some n
instance st22 : Tst 22 1 := ⟨by kernel_rfl⟩
instance st25 : Tst 25 1 := ⟨by kernel_rfl⟩
instance st54 : Tst 54 2 := ⟨by kernel_rfl⟩
instance st93 : Tst 93 3 := ⟨by kernel_rfl⟩
instance st105 : Tst 105 64 := ⟨by kernel_rfl⟩
class Tar (t : TypeId) (n e : outParam Nat) : Prop where
  out : Tryd.prog.underlying t = some (.array n e)
instance ar105 : Tar 105 64 5 := ⟨Tryd.underlying105⟩
instance sz7 : Tsz 7 4 := ⟨by kernel_rfl⟩
instance sz8 : Tsz 8 4 := ⟨by kernel_rfl⟩
instance sz13 : Tsz 13 2 := ⟨by kernel_rfl⟩
instance sz14 : Tsz 14 2 := ⟨by kernel_rfl⟩
instance sz18 : Tsz 18 1 := ⟨by kernel_rfl⟩
instance sz19 : Tsz 19 1 := ⟨by kernel_rfl⟩
instance sz53 : Tsz 53 2 := ⟨by kernel_rfl⟩
instance sz54 : Tsz 54 2 := ⟨by kernel_rfl⟩
instance sz92 : Tsz 92 3 := ⟨by kernel_rfl⟩
instance sz93 : Tsz 93 3 := ⟨by kernel_rfl⟩
instance sz105 : Tsz 105 64 := ⟨by kernel_rfl⟩
instance sz111 : Tsz 111 2 := ⟨by kernel_rfl⟩
instance sz112 : Tsz 112 2 := ⟨by kernel_rfl⟩
instance sz121 : Tsz 121 4 := ⟨by kernel_rfl⟩
instance sz122 : Tsz 122 4 := ⟨by kernel_rfl⟩
instance sz134 : Tsz 134 11 := ⟨by kernel_rfl⟩
instance sz135 : Tsz 135 11 := ⟨by kernel_rfl⟩
instance sz136 : Tsz 136 1 := ⟨by kernel_rfl⟩
instance sz137 : Tsz 137 1 := ⟨by kernel_rfl⟩
instance zr54 : Tzr 54 (.agg #[.float .f64 0, .int .i64 0]) := ⟨by kernel_rfl⟩
instance zr93 : Tzr 93 (.agg #[.int .i64 0, .bool false, .int .i64 0]) := ⟨by kernel_rfl⟩
instance zr105 : Tzr 105 (.agg #[.int .u8 0, .int .u8 0, .int .u8 0, .int .u8 0, .int .u8 0, .int .u8 0, .int .u8 0, .int .u8 0, .int .u8 0, .int .u8 0, .int .u8 0, .int .u8 0, .int .u8 0, .int .u8 0, .int .u8 0, .int .u8 0, .int .u8 0, .int .u8 0, .int .u8 0, .int .u8 0, .int .u8 0, .int .u8 0, .int .u8 0, .int .u8 0, .int .u8 0, .int .u8 0, .int .u8 0, .int .u8 0, .int .u8 0, .int .u8 0, .int .u8 0, .int .u8 0, .int .u8 0, .int .u8 0, .int .u8 0, .int .u8 0, .int .u8 0, .int .u8 0, .int .u8 0, .int .u8 0, .int .u8 0, .int .u8 0, .int .u8 0, .int .u8 0, .int .u8 0, .int .u8 0, .int .u8 0, .int .u8 0, .int .u8 0, .int .u8 0, .int .u8 0, .int .u8 0, .int .u8 0, .int .u8 0, .int .u8 0, .int .u8 0, .int .u8 0, .int .u8 0, .int .u8 0, .int .u8 0, .int .u8 0, .int .u8 0, .int .u8 0, .int .u8 0]) := ⟨by kernel_rfl⟩
instance zi3 : Tzi 3 (.int .i64 0) 8 := ⟨by kernel_rfl⟩
instance zi5 : Tzi 5 (.int .u8 0) 1 := ⟨by kernel_rfl⟩
instance zi22 : Tzi 22 (.float .f64 0) 8 := ⟨by kernel_rfl⟩
instance zi25 : Tzi 25 (.nilIface) 16 := ⟨by kernel_rfl⟩
instance sc3 : Tsc 3 := ⟨by kernel_rfl⟩
instance sc4 : Tsc 4 := ⟨by kernel_rfl⟩
instance sc5 : Tsc 5 := ⟨by kernel_rfl⟩
instance sc22 : Tsc 22 := ⟨by kernel_rfl⟩
instance sc25 : Tsc 25 := ⟨by kernel_rfl⟩
instance un47 : Tun 47 3 := ⟨Tryd.underlying47⟩
instance un48 : Tun 48 22 := ⟨Tryd.underlying48⟩
instance un58 : Tun 58 5 := ⟨Tryd.underlying58⟩
instance un116 : Tun 116 25 := ⟨Tryd.underlying116⟩
end Go.Proofs.YtcpfangcibilaaaDoor
