/- Contracts of the functions on single notes and pitches. Conditions: none. -/
import Derived.Test.YtlhekgjckjcbhaaP0
namespace Go.Proofs.Ytlhekgjckjcbhaa
open Go.RowKit
set_option linter.unusedSimpArgs false
set_option linter.unusedVariables false
set_option maxHeartbeats 1000000

end Go.Proofs.Ytlhekgjckjcbhaa
