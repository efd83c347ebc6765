/- Walks: zig's rows. -/
import Derived.Test.YthljlajdkdgieaaDoorGD
import Derived.Test.YthljlajdkdgieaaDoorGB
import Derived.Laws.Rows
namespace Go.Proofs.YthljlajdkdgieaaDoor
set_option linter.unusedVariables false
set_option linter.unusedSimpArgs false
open Go.RowKit
abbrev zrowsV : Value := .agg #[.int .u64 0, .int .i64 1, .int .i64 0, .int .u64 2, .int .i64 2, .int .i64 7, .int .u64 6, .int .i64 3, .int .i64 9, .int .u64 14, .int .i64 4, .int .i64 12, .int .u64 30, .int .i64 5, .int .i64 32, .int .u64 31, .int .i64 5, .int .i64 64]
abbrev zrowsB : Obj := .cells #[.int .u64 0, .int .i64 1, .int .i64 0, .int .u64 2, .int .i64 2, .int .i64 7, .int .u64 6, .int .i64 3, .int .i64 9, .int .u64 14, .int .i64 4, .int .i64 12, .int .u64 30, .int .i64 5, .int .i64 32, .int .u64 31, .int .i64 5, .int .i64 64] 152
set_option maxRecDepth 100000 in
set_option maxHeartbeats 4000000 in
theorem zrows_any (w : World) : Calls Tryd.prog 87 #[] w (Ret w zrowsV) := by
  go_enter Tryd.func87, Tryd.ntmps87
  go_wp2
  refine bodyPost_ret (v := zrowsV) (results_cell_row rfl _ _ w.heap.size 152 _ (0, 0) _ rfl (heap_alloc_new w _) Tryd.underlying152 rfl (by kernel_rfl)) rfl ?_
  exact ⟨(by (try unfold Ov); repeat (first | with_reducible exact ex_over | with_reducible exact over_self _ | with_reducible refine ex_undrew ?_ | with_reducible refine ex_into ?_ _ | with_reducible refine ex_alloc ?_ _ | with_reducible refine ex_drew ?_ | ((with_reducible refine ex_setCell ?_ ?_ _); rotate_left; (first | omega | (focus (simp; done)) | (focus (simp; omega)))) | ((with_reducible refine ex_chg ?_ _ ?_); rotate_left; (first | assumption | (exact Hid.out (by assumption)))) | exact ex_over)), rfl⟩
end Go.Proofs.YthljlajdkdgieaaDoor
