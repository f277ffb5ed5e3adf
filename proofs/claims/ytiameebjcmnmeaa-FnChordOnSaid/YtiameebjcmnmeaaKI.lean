/- Int slices as results. Conditions: none. -/
import Derived.Test.YtiameebjcmnmeaaK2
import Derived.Test.YtiameebjcmnmeaaN4
namespace Go.Proofs.Ytiameebjcmnmeaa
open Go.RowKit
set_option linter.unusedSimpArgs false
set_option linter.unusedVariables false
set_option maxHeartbeats 8000000
def IntsOf (l : List Int) (w : World) (e : Ending) (w' : World) : Prop :=
  ∃ v, e = .returned v ∧ w'.ownsRow w.heap.size 3 1 v l.length (intCells l) ∧ Below w.heap.size w w'
theorem info_intK : (Try.prog.info? 3).map (fun i => (i.zero, i.size, i.bytes)) = some (some (.int .i64 0), 1, 8) := by kernel_rfl
theorem intCells_at (l : List Int) (j : Nat) : (intCells l)[j]? = (l[j]?).map (Value.int .i64) := by
  rw [intCells_mapA, List.getElem?_map]
end Go.Proofs.Ytiameebjcmnmeaa
