
import Derived.Test.YthfoljgaiincdaaDoorSlotB
import Derived.Laws.Rows
namespace Go.Proofs.YthfoljgaiincdaaDoor
open Go.RowKit Go.Fld
set_option linter.unusedVariables false
/-- The table's cells. -/
def tabC : Array Value := #[.int .i64 0, .int .i64 3, .int .i64 3, .int .i64 4, .int .i64 7, .int .i64 8, .int .i64 15, .int .i64 1, .int .i64 16, .int .i64 1, .int .i64 17, .int .i64 6, .int .i64 23, .int .i64 12, .int .i64 35, .int .i64 12, .int .i64 47, .int .i64 15]
def zeroC : Array Value := Array.replicate 18 (.int .i64 0)
set_option maxHeartbeats 1000000 in
theorem store_tab (w : World) : (storeCells ⟨w.heap.size, 0, none⟩ tabC.toList).run Tryd.prog (w.alloc (.cells #[.int .i64 0, .int .i64 0, .int .i64 0, .int .i64 0, .int .i64 0, .int .i64 0, .int .i64 0, .int .i64 0, .int .i64 0, .int .i64 0, .int .i64 0, .int .i64 0, .int .i64 0, .int .i64 0, .int .i64 0, .int .i64 0, .int .i64 0, .int .i64 0] 105)) = .ok () (w.alloc (.cells tabC 105)) := by
  unfold tabC
  go_simp
end Go.Proofs.YthfoljgaiincdaaDoor
