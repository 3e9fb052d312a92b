/- The sizes and the nothings of the types. No condition. -/
import Derived.Test.YtgifehmpgcenjaaDoorGd
namespace Go.Proofs.YtgifehmpgcenjaaDoor
set_option linter.unusedVariables false
set_option linter.unusedSimpArgs false
open Go.RowKit
theorem sz7 : (Tryd.prog.info? 7).map (·.size) = some 4 := by kernel_rfl
theorem sz8 : (Tryd.prog.info? 8).map (·.size) = some 4 := by kernel_rfl
theorem sz13 : (Tryd.prog.info? 13).map (·.size) = some 2 := by kernel_rfl
theorem sz14 : (Tryd.prog.info? 14).map (·.size) = some 2 := by kernel_rfl
theorem sz18 : (Tryd.prog.info? 18).map (·.size) = some 1 := by kernel_rfl
theorem sz19 : (Tryd.prog.info? 19).map (·.size) = some 1 := by kernel_rfl
theorem sz29 : (Tryd.prog.info? 29).map (·.size) = some 2 := by kernel_rfl
theorem sz30 : (Tryd.prog.info? 30).map (·.size) = some 2 := by kernel_rfl
theorem sz48 : (Tryd.prog.info? 48).map (·.size) = some 3 := by kernel_rfl
theorem sz49 : (Tryd.prog.info? 49).map (·.size) = some 3 := by kernel_rfl
theorem sz62 : (Tryd.prog.info? 62).map (·.size) = some 3 := by kernel_rfl
theorem sz63 : (Tryd.prog.info? 63).map (·.size) = some 3 := by kernel_rfl
theorem sz117 : (Tryd.prog.info? 117).map (·.size) = some 2 := by kernel_rfl
theorem sz118 : (Tryd.prog.info? 118).map (·.size) = some 2 := by kernel_rfl
theorem sz139 : (Tryd.prog.info? 139).map (·.size) = some 2 := by kernel_rfl
theorem sz140 : (Tryd.prog.info? 140).map (·.size) = some 2 := by kernel_rfl
theorem sz153 : (Tryd.prog.info? 153).map (·.size) = some 24 := by kernel_rfl
theorem sz162 : (Tryd.prog.info? 162).map (·.size) = some 20 := by kernel_rfl
theorem sz163 : (Tryd.prog.info? 163).map (·.size) = some 65 := by kernel_rfl
theorem sz166 : (Tryd.prog.info? 166).map (·.size) = some 32 := by kernel_rfl
theorem sz167 : (Tryd.prog.info? 167).map (·.size) = some 64 := by kernel_rfl
theorem sz169 : (Tryd.prog.info? 169).map (·.size) = some 4 := by kernel_rfl
theorem sz170 : (Tryd.prog.info? 170).map (·.size) = some 4 := by kernel_rfl
theorem sz180 : (Tryd.prog.info? 180).map (·.size) = some 11 := by kernel_rfl
theorem sz181 : (Tryd.prog.info? 181).map (·.size) = some 11 := by kernel_rfl
theorem sz182 : (Tryd.prog.info? 182).map (·.size) = some 1 := by kernel_rfl
theorem sz183 : (Tryd.prog.info? 183).map (·.size) = some 1 := by kernel_rfl
theorem zr3 : (Tryd.prog.info? 3).map (·.zero) = some (some (.int .i64 0)) := by kernel_rfl
theorem zr4 : (Tryd.prog.info? 4).map (·.zero) = some (some (.bool false)) := by kernel_rfl
theorem zr24 : (Tryd.prog.info? 24).map (·.zero) = some (some (.slice none 0 0)) := by kernel_rfl
theorem zr30 : (Tryd.prog.info? 30).map (·.zero) = some (some (.agg #[.slice none 0 0, .bool false])) := by kernel_rfl
theorem zr49 : (Tryd.prog.info? 49).map (·.zero) = some (some (.agg #[.slice none 0 0, .bool false, .slice none 0 0])) := by kernel_rfl
theorem zr63 : (Tryd.prog.info? 63).map (·.zero) = some (some (.agg #[.int .i64 0, .bool false, .int .i64 0])) := by kernel_rfl
theorem zr140 : (Tryd.prog.info? 140).map (·.zero) = some (some (.agg #[.pointer none, .slice none 0 0])) := by kernel_rfl
theorem zr153 : (Tryd.prog.info? 153).map (·.zero) = some (some (.agg #[.int .u8 0, .int .u8 0, .int .u8 0, .int .u8 0, .int .u8 0, .int .u8 0, .int .u8 0, .int .u8 0, .int .u8 0, .int .u8 0, .int .u8 0, .int .u8 0, .int .u8 0, .int .u8 0, .int .u8 0, .int .u8 0, .int .u8 0, .int .u8 0, .int .u8 0, .int .u8 0, .int .u8 0, .int .u8 0, .int .u8 0, .int .u8 0])) := by kernel_rfl
theorem zr163 : (Tryd.prog.info? 163).map (·.zero) = some (some (.agg #[.int .u8 0, .int .u8 0, .int .u8 0, .int .u8 0, .int .u8 0, .int .u8 0, .int .u8 0, .int .u8 0, .int .u8 0, .int .u8 0, .int .u8 0, .int .u8 0, .int .u8 0, .int .u8 0, .int .u8 0, .int .u8 0, .int .u8 0, .int .u8 0, .int .u8 0, .int .u8 0, .int .u8 0, .int .u8 0, .int .u8 0, .int .u8 0, .int .u8 0, .int .u8 0, .int .u8 0, .int .u8 0, .int .u8 0, .int .u8 0, .int .u8 0, .int .u8 0, .int .u8 0, .int .u8 0, .int .u8 0, .int .u8 0, .int .u8 0, .int .u8 0, .int .u8 0, .int .u8 0, .int .u8 0, .int .u8 0, .int .u8 0, .int .u8 0, .int .u8 0, .int .u8 0, .int .u8 0, .int .u8 0, .int .u8 0, .int .u8 0, .int .u8 0, .int .u8 0, .int .u8 0, .int .u8 0, .int .u8 0, .int .u8 0, .int .u8 0, .int .u8 0, .int .u8 0, .int .u8 0, .int .u8 0, .int .u8 0, .int .u8 0, .int .u8 0, .int .u8 0])) := by kernel_rfl
theorem zi3 : (Tryd.prog.info? 3).map (fun i => (i.zero, i.size, i.bytes)) = some (some (.int .i64 0), 1, 8) := by kernel_rfl
theorem zi5 : (Tryd.prog.info? 5).map (fun i => (i.zero, i.size, i.bytes)) = some (some (.int .u8 0), 1, 1) := by kernel_rfl
theorem zi9 : (Tryd.prog.info? 9).map (fun i => (i.zero, i.size, i.bytes)) = some (some (.string ByteArray.empty), 1, 16) := by kernel_rfl
theorem zi27 : (Tryd.prog.info? 27).map (fun i => (i.zero, i.size, i.bytes)) = some (some (.nilIface), 1, 16) := by kernel_rfl
theorem sc3 : scalar (Tryd.prog.underlying 3) = true := by kernel_rfl
theorem sc4 : scalar (Tryd.prog.underlying 4) = true := by kernel_rfl
theorem sc5 : scalar (Tryd.prog.underlying 5) = true := by kernel_rfl
theorem sc9 : scalar (Tryd.prog.underlying 9) = true := by kernel_rfl
theorem sc24 : scalar (Tryd.prog.underlying 24) = true := by kernel_rfl
theorem sc27 : scalar (Tryd.prog.underlying 27) = true := by kernel_rfl
theorem sc76 : scalar (Tryd.prog.underlying 76) = true := by kernel_rfl
theorem sc101 : scalar (Tryd.prog.underlying 101) = true := by kernel_rfl
theorem sc138 : scalar (Tryd.prog.underlying 138) = true := by kernel_rfl
theorem un24 : Tryd.prog.underlying 24 = some (.slice 3) := Tryd.underlying24
theorem un76 : Tryd.prog.underlying 76 = some (.slice 5) := Tryd.underlying76
theorem un123 : Tryd.prog.underlying 123 = some (.slice 9) := Tryd.underlying123
theorem un145 : Tryd.prog.underlying 145 = some (.slice 27) := Tryd.underlying145
end Go.Proofs.YtgifehmpgcenjaaDoor
