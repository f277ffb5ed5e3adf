/- Contracts of the functions that mark voices and ask the marks. Conditions: lengths up to 2^20. -/
import Derived.Test.YtaikcpidijekpaaGreatDoorB6
namespace Go.Proofs.YtaikcpidijekpaaGreatDoor
open Go.RowKit
set_option linter.unusedSimpArgs false
set_option linter.unusedVariables false
set_option maxHeartbeats 4000000
end Go.Proofs.YtaikcpidijekpaaGreatDoor
