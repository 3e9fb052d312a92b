/- Package sha: words, and the taking of a block, walked. No condition. -/
import Derived.Test.YthlipmehnkhijaaDoorGt
import Derived.Test.YthlipmehnkhijaaDoorGr
namespace Go.Proofs.YthlipmehnkhijaaDoor
set_option linter.unusedVariables false
set_option linter.unusedSimpArgs false
open Go.RowKit

def rotk (k : Int) (x : Int) : Int := bits .or .u32 (x / 2 ^ k.toNat) (x * 2 ^ (32 - k.toNat) % 4294967296)
theorem or_comm32 (x y : Int) : bits .or .u32 x y = bits .or .u32 y x := by
  unfold bits; simp only [BitVec.or_comm]
def turns : List Int := [2, 6, 7, 11, 13, 17, 18, 19, 22, 25]


theorem right_2 (w : World) (x : Int) : Calls Tryd.prog 71 #[.int .u32 x, .int .i64 2] w fun e w' => e = .returned (.int .u32 (rotk 2 x)) ∧ w = w' := by
  have c1 : bits .and .u64 18446744073709551614 31 = 30 := by kernel_rfl
  have c2 : IntKind.u64.wrap (-2) = 18446744073709551614 := by kernel_rfl
  have c3 : bits .or .u32 (x * 1073741824 % 4294967296) (x / 4) = rotk 2 x := by rw [or_comm32]; rfl
  go_enter Tryd.func71, Tryd.ntmps71
  go_wp2
  go_ret
  exact ⟨rfl, rfl⟩
theorem turn_2 (w : World) (x : Int) : Calls Tryd.prog 55 #[.int .u32 x, .int .u64 2] w fun e w' => e = .returned (.int .u32 (rotk 2 x)) ∧ w = w' := by
  have c3 : bits .or .u32 (x / 4) (x * 1073741824 % 4294967296) = rotk 2 x := rfl
  go_enter Tryd.func55, Tryd.ntmps55
  go_wp2
  go_ret
  exact ⟨rfl, rfl⟩

theorem right_6 (w : World) (x : Int) : Calls Tryd.prog 71 #[.int .u32 x, .int .i64 6] w fun e w' => e = .returned (.int .u32 (rotk 6 x)) ∧ w = w' := by
  have c1 : bits .and .u64 18446744073709551610 31 = 26 := by kernel_rfl
  have c2 : IntKind.u64.wrap (-6) = 18446744073709551610 := by kernel_rfl
  have c3 : bits .or .u32 (x * 67108864 % 4294967296) (x / 64) = rotk 6 x := by rw [or_comm32]; rfl
  go_enter Tryd.func71, Tryd.ntmps71
  go_wp2
  go_ret
  exact ⟨rfl, rfl⟩
theorem turn_6 (w : World) (x : Int) : Calls Tryd.prog 55 #[.int .u32 x, .int .u64 6] w fun e w' => e = .returned (.int .u32 (rotk 6 x)) ∧ w = w' := by
  have c3 : bits .or .u32 (x / 64) (x * 67108864 % 4294967296) = rotk 6 x := rfl
  go_enter Tryd.func55, Tryd.ntmps55
  go_wp2
  go_ret
  exact ⟨rfl, rfl⟩

theorem right_7 (w : World) (x : Int) : Calls Tryd.prog 71 #[.int .u32 x, .int .i64 7] w fun e w' => e = .returned (.int .u32 (rotk 7 x)) ∧ w = w' := by
  have c1 : bits .and .u64 18446744073709551609 31 = 25 := by kernel_rfl
  have c2 : IntKind.u64.wrap (-7) = 18446744073709551609 := by kernel_rfl
  have c3 : bits .or .u32 (x * 33554432 % 4294967296) (x / 128) = rotk 7 x := by rw [or_comm32]; rfl
  go_enter Tryd.func71, Tryd.ntmps71
  go_wp2
  go_ret
  exact ⟨rfl, rfl⟩
theorem turn_7 (w : World) (x : Int) : Calls Tryd.prog 55 #[.int .u32 x, .int .u64 7] w fun e w' => e = .returned (.int .u32 (rotk 7 x)) ∧ w = w' := by
  have c3 : bits .or .u32 (x / 128) (x * 33554432 % 4294967296) = rotk 7 x := rfl
  go_enter Tryd.func55, Tryd.ntmps55
  go_wp2
  go_ret
  exact ⟨rfl, rfl⟩

theorem right_11 (w : World) (x : Int) : Calls Tryd.prog 71 #[.int .u32 x, .int .i64 11] w fun e w' => e = .returned (.int .u32 (rotk 11 x)) ∧ w = w' := by
  have c1 : bits .and .u64 18446744073709551605 31 = 21 := by kernel_rfl
  have c2 : IntKind.u64.wrap (-11) = 18446744073709551605 := by kernel_rfl
  have c3 : bits .or .u32 (x * 2097152 % 4294967296) (x / 2048) = rotk 11 x := by rw [or_comm32]; rfl
  go_enter Tryd.func71, Tryd.ntmps71
  go_wp2
  go_ret
  exact ⟨rfl, rfl⟩
theorem turn_11 (w : World) (x : Int) : Calls Tryd.prog 55 #[.int .u32 x, .int .u64 11] w fun e w' => e = .returned (.int .u32 (rotk 11 x)) ∧ w = w' := by
  have c3 : bits .or .u32 (x / 2048) (x * 2097152 % 4294967296) = rotk 11 x := rfl
  go_enter Tryd.func55, Tryd.ntmps55
  go_wp2
  go_ret
  exact ⟨rfl, rfl⟩

theorem right_13 (w : World) (x : Int) : Calls Tryd.prog 71 #[.int .u32 x, .int .i64 13] w fun e w' => e = .returned (.int .u32 (rotk 13 x)) ∧ w = w' := by
  have c1 : bits .and .u64 18446744073709551603 31 = 19 := by kernel_rfl
  have c2 : IntKind.u64.wrap (-13) = 18446744073709551603 := by kernel_rfl
  have c3 : bits .or .u32 (x * 524288 % 4294967296) (x / 8192) = rotk 13 x := by rw [or_comm32]; rfl
  go_enter Tryd.func71, Tryd.ntmps71
  go_wp2
  go_ret
  exact ⟨rfl, rfl⟩
theorem turn_13 (w : World) (x : Int) : Calls Tryd.prog 55 #[.int .u32 x, .int .u64 13] w fun e w' => e = .returned (.int .u32 (rotk 13 x)) ∧ w = w' := by
  have c3 : bits .or .u32 (x / 8192) (x * 524288 % 4294967296) = rotk 13 x := rfl
  go_enter Tryd.func55, Tryd.ntmps55
  go_wp2
  go_ret
  exact ⟨rfl, rfl⟩

theorem right_17 (w : World) (x : Int) : Calls Tryd.prog 71 #[.int .u32 x, .int .i64 17] w fun e w' => e = .returned (.int .u32 (rotk 17 x)) ∧ w = w' := by
  have c1 : bits .and .u64 18446744073709551599 31 = 15 := by kernel_rfl
  have c2 : IntKind.u64.wrap (-17) = 18446744073709551599 := by kernel_rfl
  have c3 : bits .or .u32 (x * 32768 % 4294967296) (x / 131072) = rotk 17 x := by rw [or_comm32]; rfl
  go_enter Tryd.func71, Tryd.ntmps71
  go_wp2
  go_ret
  exact ⟨rfl, rfl⟩
theorem turn_17 (w : World) (x : Int) : Calls Tryd.prog 55 #[.int .u32 x, .int .u64 17] w fun e w' => e = .returned (.int .u32 (rotk 17 x)) ∧ w = w' := by
  have c3 : bits .or .u32 (x / 131072) (x * 32768 % 4294967296) = rotk 17 x := rfl
  go_enter Tryd.func55, Tryd.ntmps55
  go_wp2
  go_ret
  exact ⟨rfl, rfl⟩

theorem right_18 (w : World) (x : Int) : Calls Tryd.prog 71 #[.int .u32 x, .int .i64 18] w fun e w' => e = .returned (.int .u32 (rotk 18 x)) ∧ w = w' := by
  have c1 : bits .and .u64 18446744073709551598 31 = 14 := by kernel_rfl
  have c2 : IntKind.u64.wrap (-18) = 18446744073709551598 := by kernel_rfl
  have c3 : bits .or .u32 (x * 16384 % 4294967296) (x / 262144) = rotk 18 x := by rw [or_comm32]; rfl
  go_enter Tryd.func71, Tryd.ntmps71
  go_wp2
  go_ret
  exact ⟨rfl, rfl⟩
theorem turn_18 (w : World) (x : Int) : Calls Tryd.prog 55 #[.int .u32 x, .int .u64 18] w fun e w' => e = .returned (.int .u32 (rotk 18 x)) ∧ w = w' := by
  have c3 : bits .or .u32 (x / 262144) (x * 16384 % 4294967296) = rotk 18 x := rfl
  go_enter Tryd.func55, Tryd.ntmps55
  go_wp2
  go_ret
  exact ⟨rfl, rfl⟩

theorem right_19 (w : World) (x : Int) : Calls Tryd.prog 71 #[.int .u32 x, .int .i64 19] w fun e w' => e = .returned (.int .u32 (rotk 19 x)) ∧ w = w' := by
  have c1 : bits .and .u64 18446744073709551597 31 = 13 := by kernel_rfl
  have c2 : IntKind.u64.wrap (-19) = 18446744073709551597 := by kernel_rfl
  have c3 : bits .or .u32 (x * 8192 % 4294967296) (x / 524288) = rotk 19 x := by rw [or_comm32]; rfl
  go_enter Tryd.func71, Tryd.ntmps71
  go_wp2
  go_ret
  exact ⟨rfl, rfl⟩
theorem turn_19 (w : World) (x : Int) : Calls Tryd.prog 55 #[.int .u32 x, .int .u64 19] w fun e w' => e = .returned (.int .u32 (rotk 19 x)) ∧ w = w' := by
  have c3 : bits .or .u32 (x / 524288) (x * 8192 % 4294967296) = rotk 19 x := rfl
  go_enter Tryd.func55, Tryd.ntmps55
  go_wp2
  go_ret
  exact ⟨rfl, rfl⟩

theorem right_22 (w : World) (x : Int) : Calls Tryd.prog 71 #[.int .u32 x, .int .i64 22] w fun e w' => e = .returned (.int .u32 (rotk 22 x)) ∧ w = w' := by
  have c1 : bits .and .u64 18446744073709551594 31 = 10 := by kernel_rfl
  have c2 : IntKind.u64.wrap (-22) = 18446744073709551594 := by kernel_rfl
  have c3 : bits .or .u32 (x * 1024 % 4294967296) (x / 4194304) = rotk 22 x := by rw [or_comm32]; rfl
  go_enter Tryd.func71, Tryd.ntmps71
  go_wp2
  go_ret
  exact ⟨rfl, rfl⟩
theorem turn_22 (w : World) (x : Int) : Calls Tryd.prog 55 #[.int .u32 x, .int .u64 22] w fun e w' => e = .returned (.int .u32 (rotk 22 x)) ∧ w = w' := by
  have c3 : bits .or .u32 (x / 4194304) (x * 1024 % 4294967296) = rotk 22 x := rfl
  go_enter Tryd.func55, Tryd.ntmps55
  go_wp2
  go_ret
  exact ⟨rfl, rfl⟩

theorem right_25 (w : World) (x : Int) : Calls Tryd.prog 71 #[.int .u32 x, .int .i64 25] w fun e w' => e = .returned (.int .u32 (rotk 25 x)) ∧ w = w' := by
  have c1 : bits .and .u64 18446744073709551591 31 = 7 := by kernel_rfl
  have c2 : IntKind.u64.wrap (-25) = 18446744073709551591 := by kernel_rfl
  have c3 : bits .or .u32 (x * 128 % 4294967296) (x / 33554432) = rotk 25 x := by rw [or_comm32]; rfl
  go_enter Tryd.func71, Tryd.ntmps71
  go_wp2
  go_ret
  exact ⟨rfl, rfl⟩
theorem turn_25 (w : World) (x : Int) : Calls Tryd.prog 55 #[.int .u32 x, .int .u64 25] w fun e w' => e = .returned (.int .u32 (rotk 25 x)) ∧ w = w' := by
  have c3 : bits .or .u32 (x / 33554432) (x * 128 % 4294967296) = rotk 25 x := rfl
  go_enter Tryd.func55, Tryd.ntmps55
  go_wp2
  go_ret
  exact ⟨rfl, rfl⟩

end Go.Proofs.YthlipmehnkhijaaDoor
