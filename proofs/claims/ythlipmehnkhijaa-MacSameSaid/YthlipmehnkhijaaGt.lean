/- The sizes and the nothings of the types. No condition. -/
import Derived.Test.YthlipmehnkhijaaGd
namespace Go.Proofs.Ythlipmehnkhijaa
set_option linter.unusedVariables false
set_option linter.unusedSimpArgs false
open Go.RowKit
class Tsc (t : TypeId) : Prop where
  out : scalar (Try.prog.underlying t) = true
class Tsz (t : TypeId) (n : outParam Nat) : Prop where
  out : (Try.prog.info? t).map (·.size) = some n
class Tzr (t : TypeId) (z : outParam Value) : Prop where
  out : (Try.prog.info? t).map (·.zero) = some (some z)
class Tzi (t : TypeId) (z : outParam Value) (b : outParam Nat) : Prop where
  out : (Try.prog.info? t).map (fun i => (i.zero, i.size, i.bytes)) = some (some z, 1, b)
class Tun (t : TypeId) (e : outParam TypeId) : Prop where
  out : Try.prog.underlying t = some (.slice e)
class Tst (t : TypeId) (n : outParam Nat) : Prop where
  out : (Try.prog.info? t).map (·.size) = some n
instance st3 : Tst 3 1 := ⟨by kernel_rfl⟩
instance st5 : Tst 5 1 := ⟨by kernel_rfl⟩
instance st24 : Tst 24 1 := ⟨by kernel_rfl⟩
instance st26 : Tst 26 32 := ⟨by kernel_rfl⟩
instance st44 : Tst 44 1 := ⟨by kernel_rfl⟩
instance st55 : Tst 55 64 := ⟨by kernel_rfl⟩
instance st57 : Tst 57 8 := ⟨by kernel_rfl⟩
instance st59 : Tst 59 10 := ⟨by kernel_rfl⟩
class Tar (t : TypeId) (n e : outParam Nat) : Prop where
  out : Try.prog.underlying t = some (.array n e)
instance ar26 : Tar 26 32 5 := ⟨Try.underlying26⟩
instance ar55 : Tar 55 64 44 := ⟨Try.underlying55⟩
instance ar57 : Tar 57 8 44 := ⟨Try.underlying57⟩
instance ar65 : Tar 65 64 5 := ⟨Try.underlying65⟩
instance sz7 : Tsz 7 4 := ⟨by kernel_rfl⟩
instance sz8 : Tsz 8 4 := ⟨by kernel_rfl⟩
instance sz13 : Tsz 13 2 := ⟨by kernel_rfl⟩
instance sz14 : Tsz 14 2 := ⟨by kernel_rfl⟩
instance sz18 : Tsz 18 1 := ⟨by kernel_rfl⟩
instance sz19 : Tsz 19 1 := ⟨by kernel_rfl⟩
instance sz26 : Tsz 26 32 := ⟨by kernel_rfl⟩
instance sz55 : Tsz 55 64 := ⟨by kernel_rfl⟩
instance sz57 : Tsz 57 8 := ⟨by kernel_rfl⟩
instance sz58 : Tsz 58 10 := ⟨by kernel_rfl⟩
instance sz59 : Tsz 59 10 := ⟨by kernel_rfl⟩
instance sz65 : Tsz 65 64 := ⟨by kernel_rfl⟩
instance sz69 : Tsz 69 4 := ⟨by kernel_rfl⟩
instance sz70 : Tsz 70 4 := ⟨by kernel_rfl⟩
instance sz80 : Tsz 80 11 := ⟨by kernel_rfl⟩
instance sz81 : Tsz 81 11 := ⟨by kernel_rfl⟩
instance zr26 : Tzr 26 (.agg #[.int .u8 0, .int .u8 0, .int .u8 0, .int .u8 0, .int .u8 0, .int .u8 0, .int .u8 0, .int .u8 0, .int .u8 0, .int .u8 0, .int .u8 0, .int .u8 0, .int .u8 0, .int .u8 0, .int .u8 0, .int .u8 0, .int .u8 0, .int .u8 0, .int .u8 0, .int .u8 0, .int .u8 0, .int .u8 0, .int .u8 0, .int .u8 0, .int .u8 0, .int .u8 0, .int .u8 0, .int .u8 0, .int .u8 0, .int .u8 0, .int .u8 0, .int .u8 0]) := ⟨by kernel_rfl⟩
instance zr55 : Tzr 55 (.agg #[.int .u32 0, .int .u32 0, .int .u32 0, .int .u32 0, .int .u32 0, .int .u32 0, .int .u32 0, .int .u32 0, .int .u32 0, .int .u32 0, .int .u32 0, .int .u32 0, .int .u32 0, .int .u32 0, .int .u32 0, .int .u32 0, .int .u32 0, .int .u32 0, .int .u32 0, .int .u32 0, .int .u32 0, .int .u32 0, .int .u32 0, .int .u32 0, .int .u32 0, .int .u32 0, .int .u32 0, .int .u32 0, .int .u32 0, .int .u32 0, .int .u32 0, .int .u32 0, .int .u32 0, .int .u32 0, .int .u32 0, .int .u32 0, .int .u32 0, .int .u32 0, .int .u32 0, .int .u32 0, .int .u32 0, .int .u32 0, .int .u32 0, .int .u32 0, .int .u32 0, .int .u32 0, .int .u32 0, .int .u32 0, .int .u32 0, .int .u32 0, .int .u32 0, .int .u32 0, .int .u32 0, .int .u32 0, .int .u32 0, .int .u32 0, .int .u32 0, .int .u32 0, .int .u32 0, .int .u32 0, .int .u32 0, .int .u32 0, .int .u32 0, .int .u32 0]) := ⟨by kernel_rfl⟩
instance zr57 : Tzr 57 (.agg #[.int .u32 0, .int .u32 0, .int .u32 0, .int .u32 0, .int .u32 0, .int .u32 0, .int .u32 0, .int .u32 0]) := ⟨by kernel_rfl⟩
instance zr59 : Tzr 59 (.agg #[.int .u32 0, .int .u32 0, .int .u32 0, .int .u32 0, .int .u32 0, .int .u32 0, .int .u32 0, .int .u32 0, .slice none 0 0, .int .i64 0]) := ⟨by kernel_rfl⟩
instance zr65 : Tzr 65 (.agg #[.int .u8 0, .int .u8 0, .int .u8 0, .int .u8 0, .int .u8 0, .int .u8 0, .int .u8 0, .int .u8 0, .int .u8 0, .int .u8 0, .int .u8 0, .int .u8 0, .int .u8 0, .int .u8 0, .int .u8 0, .int .u8 0, .int .u8 0, .int .u8 0, .int .u8 0, .int .u8 0, .int .u8 0, .int .u8 0, .int .u8 0, .int .u8 0, .int .u8 0, .int .u8 0, .int .u8 0, .int .u8 0, .int .u8 0, .int .u8 0, .int .u8 0, .int .u8 0, .int .u8 0, .int .u8 0, .int .u8 0, .int .u8 0, .int .u8 0, .int .u8 0, .int .u8 0, .int .u8 0, .int .u8 0, .int .u8 0, .int .u8 0, .int .u8 0, .int .u8 0, .int .u8 0, .int .u8 0, .int .u8 0, .int .u8 0, .int .u8 0, .int .u8 0, .int .u8 0, .int .u8 0, .int .u8 0, .int .u8 0, .int .u8 0, .int .u8 0, .int .u8 0, .int .u8 0, .int .u8 0, .int .u8 0, .int .u8 0, .int .u8 0, .int .u8 0]) := ⟨by kernel_rfl⟩
instance zi3 : Tzi 3 (.int .i64 0) 8 := ⟨by kernel_rfl⟩
instance zi5 : Tzi 5 (.int .u8 0) 1 := ⟨by kernel_rfl⟩
instance zi24 : Tzi 24 (.slice none 0 0) 24 := ⟨by kernel_rfl⟩
instance zi44 : Tzi 44 (.int .u32 0) 4 := ⟨by kernel_rfl⟩
instance sc3 : Tsc 3 := ⟨by kernel_rfl⟩
instance sc5 : Tsc 5 := ⟨by kernel_rfl⟩
instance sc24 : Tsc 24 := ⟨by kernel_rfl⟩
instance sc44 : Tsc 44 := ⟨by kernel_rfl⟩
instance un24 : Tun 24 5 := ⟨Try.underlying24⟩
instance un31 : Tun 31 3 := ⟨Try.underlying31⟩
instance un32 : Tun 32 24 := ⟨Try.underlying32⟩
instance un42 : Tun 42 44 := ⟨Try.underlying42⟩
end Go.Proofs.Ythlipmehnkhijaa
