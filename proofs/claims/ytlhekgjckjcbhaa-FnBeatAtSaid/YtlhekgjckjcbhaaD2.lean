/- Drawing meters; TicksOf; the walks of the laws on meters. Conditions: none. -/
import Derived.Test.YtlhekgjckjcbhaaD1
import Derived.Test.YtlhekgjckjcbhaaM1
namespace Go.Proofs.Ytlhekgjckjcbhaa
open Go.RowKit
set_option linter.unusedSimpArgs false
set_option linter.unusedVariables false
set_option maxHeartbeats 2000000

def DMet (w : World) (e : Ending) (w' : World) : Prop := ∃ mt : Met, e = .returned mt.v ∧ mt.Good ∧ Below w.heap.size w w'
end Go.Proofs.Ytlhekgjckjcbhaa
