/- Parallels of the program; its MoveFault. Conditions: none. -/
import Derived.Test.YtiameebjcmnmeaaC4
namespace Go.Proofs.Ytiameebjcmnmeaa
open Go.RowKit
set_option linter.unusedSimpArgs false
set_option linter.unusedVariables false
set_option maxHeartbeats 16000000
end Go.Proofs.Ytiameebjcmnmeaa
