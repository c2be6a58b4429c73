/-
  PROVED HERE: what bits.RotateLeft32 answers at the counts that the program uses; no condition.
-/
import Derived.Test.YtpbbfbgmpidgnaaDoorBase
import Derived.Test.YtpbbfbgmpidgnaaDoorWord
namespace Go.Proofs.YtpbbfbgmpidgnaaDoor
open Go.RowKit
theorem rot2 (x : BitVec 32) (w : World) : Calls Tryd.prog 114 #[.int .u32 (wv x), .int .i64 (-2)] w fun e w' => e = .returned (.int .u32 (wv (rotr x 2))) ∧ w = w' := by
  have hk : bits BinOp.and IntKind.u64 (IntKind.u64.wrap (-2)) 31 = 30 := by decide
  go_enter Tryd.func114, Tryd.ntmps114
  go_wp2
  go_ret
  exact ⟨rfl, rfl⟩
theorem rot6 (x : BitVec 32) (w : World) : Calls Tryd.prog 114 #[.int .u32 (wv x), .int .i64 (-6)] w fun e w' => e = .returned (.int .u32 (wv (rotr x 6))) ∧ w = w' := by
  have hk : bits BinOp.and IntKind.u64 (IntKind.u64.wrap (-6)) 31 = 26 := by decide
  go_enter Tryd.func114, Tryd.ntmps114
  go_wp2
  go_ret
  exact ⟨rfl, rfl⟩
theorem rot7 (x : BitVec 32) (w : World) : Calls Tryd.prog 114 #[.int .u32 (wv x), .int .i64 (-7)] w fun e w' => e = .returned (.int .u32 (wv (rotr x 7))) ∧ w = w' := by
  have hk : bits BinOp.and IntKind.u64 (IntKind.u64.wrap (-7)) 31 = 25 := by decide
  go_enter Tryd.func114, Tryd.ntmps114
  go_wp2
  go_ret
  exact ⟨rfl, rfl⟩
theorem rot11 (x : BitVec 32) (w : World) : Calls Tryd.prog 114 #[.int .u32 (wv x), .int .i64 (-11)] w fun e w' => e = .returned (.int .u32 (wv (rotr x 11))) ∧ w = w' := by
  have hk : bits BinOp.and IntKind.u64 (IntKind.u64.wrap (-11)) 31 = 21 := by decide
  go_enter Tryd.func114, Tryd.ntmps114
  go_wp2
  go_ret
  exact ⟨rfl, rfl⟩
theorem rot13 (x : BitVec 32) (w : World) : Calls Tryd.prog 114 #[.int .u32 (wv x), .int .i64 (-13)] w fun e w' => e = .returned (.int .u32 (wv (rotr x 13))) ∧ w = w' := by
  have hk : bits BinOp.and IntKind.u64 (IntKind.u64.wrap (-13)) 31 = 19 := by decide
  go_enter Tryd.func114, Tryd.ntmps114
  go_wp2
  go_ret
  exact ⟨rfl, rfl⟩
theorem rot17 (x : BitVec 32) (w : World) : Calls Tryd.prog 114 #[.int .u32 (wv x), .int .i64 (-17)] w fun e w' => e = .returned (.int .u32 (wv (rotr x 17))) ∧ w = w' := by
  have hk : bits BinOp.and IntKind.u64 (IntKind.u64.wrap (-17)) 31 = 15 := by decide
  go_enter Tryd.func114, Tryd.ntmps114
  go_wp2
  go_ret
  exact ⟨rfl, rfl⟩
theorem rot18 (x : BitVec 32) (w : World) : Calls Tryd.prog 114 #[.int .u32 (wv x), .int .i64 (-18)] w fun e w' => e = .returned (.int .u32 (wv (rotr x 18))) ∧ w = w' := by
  have hk : bits BinOp.and IntKind.u64 (IntKind.u64.wrap (-18)) 31 = 14 := by decide
  go_enter Tryd.func114, Tryd.ntmps114
  go_wp2
  go_ret
  exact ⟨rfl, rfl⟩
theorem rot19 (x : BitVec 32) (w : World) : Calls Tryd.prog 114 #[.int .u32 (wv x), .int .i64 (-19)] w fun e w' => e = .returned (.int .u32 (wv (rotr x 19))) ∧ w = w' := by
  have hk : bits BinOp.and IntKind.u64 (IntKind.u64.wrap (-19)) 31 = 13 := by decide
  go_enter Tryd.func114, Tryd.ntmps114
  go_wp2
  go_ret
  exact ⟨rfl, rfl⟩
theorem rot22 (x : BitVec 32) (w : World) : Calls Tryd.prog 114 #[.int .u32 (wv x), .int .i64 (-22)] w fun e w' => e = .returned (.int .u32 (wv (rotr x 22))) ∧ w = w' := by
  have hk : bits BinOp.and IntKind.u64 (IntKind.u64.wrap (-22)) 31 = 10 := by decide
  go_enter Tryd.func114, Tryd.ntmps114
  go_wp2
  go_ret
  exact ⟨rfl, rfl⟩
theorem rot25 (x : BitVec 32) (w : World) : Calls Tryd.prog 114 #[.int .u32 (wv x), .int .i64 (-25)] w fun e w' => e = .returned (.int .u32 (wv (rotr x 25))) ∧ w = w' := by
  have hk : bits BinOp.and IntKind.u64 (IntKind.u64.wrap (-25)) 31 = 7 := by decide
  go_enter Tryd.func114, Tryd.ntmps114
  go_wp2
  go_ret
  exact ⟨rfl, rfl⟩
end Go.Proofs.YtpbbfbgmpidgnaaDoor
