import Derived.Test.YtnihngljmmbenaaGreatDoorGD
import Derived.Test.YtnihngljmmbenaaGreatDoorGB
import Derived.Laws.Rows
namespace Go.Proofs.YtnihngljmmbenaaGreatDoor
set_option linter.unusedVariables false
set_option linter.unusedSimpArgs false
open Go.RowKit
abbrev zrowsV : Value := .agg #[.int .u64 0, .int .i64 1, .int .i64 0, .int .u64 2, .int .i64 2, .int .i64 7, .int .u64 6, .int .i64 3, .int .i64 9, .int .u64 14, .int .i64 4, .int .i64 12, .int .u64 30, .int .i64 5, .int .i64 32, .int .u64 31, .int .i64 5, .int .i64 64]
abbrev zrowsB : Obj := .cells #[.int .u64 0, .int .i64 1, .int .i64 0, .int .u64 2, .int .i64 2, .int .i64 7, .int .u64 6, .int .i64 3, .int .i64 9, .int .u64 14, .int .i64 4, .int .i64 12, .int .u64 30, .int .i64 5, .int .i64 32, .int .u64 31, .int .i64 5, .int .i64 64] 274
set_option maxRecDepth 100000 in
set_option maxHeartbeats 4000000 in
theorem zrows_any (w : World) : Calls Tryz.prog 166 #[] w (Ret w zrowsV) := by
  go_enter Tryz.func166, Tryz.ntmps166
  go_wp2
  refine bodyPost_ret (v := zrowsV) (results_cell_row rfl _ _ w.heap.size 274 _ (0, 0) _ rfl (heap_alloc_new w _) Tryz.underlying274 rfl (by kernel_rfl)) rfl ?_
  exact ⟨ovA, rfl⟩
end Go.Proofs.YtnihngljmmbenaaGreatDoor
