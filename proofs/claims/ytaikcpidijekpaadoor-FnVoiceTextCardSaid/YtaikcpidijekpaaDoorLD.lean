/- What a row's cell 'laid' gives the walks. Conditions: none. -/
import Derived.Test.YtaikcpidijekpaaDoorRows
import Derived.Test.YtaikcpidijekpaaDoorTie
import Derived.Test.YtaikcpidijekpaaDoorME
import Derived.Test.YtaikcpidijekpaaDoorTN
import Derived.ProofKit
import Derived.LaidMore
import Derived.OpenShut
import Derived.Stop.Joined
import Derived.Stop.LaidErr
import Derived.SevenTiedAt
import Derived.MakeChecks
namespace Go.Proofs.YtaikcpidijekpaaDoor
open Go.RowKit
set_option maxRecDepth 100000
theorem g_pow10 : Tryd.prog.globalNamed "internal/strconv.uint64pow10" = some 3 := by kernel_rfl
theorem t_pow10 : (Tryd.prog.globals[3]?).map (·.type) = some 133 := by kernel_rfl
theorem tab_of {x y : String × DataW Unit} {r : List (String × DataW Unit)} {W : World} (h : laidMet Tryd.prog (x :: y :: ("internal/strconv.uint64pow10", Rows.laid_internal_strconv_uint64pow10) :: r) W) : Tab W :=
  Lib.tabIs_of_head (zs := Lib.pow10Tab) g_pow10 t_pow10 Tryd.underlying133 Tryd.underlying113 (by kernel_rfl) (by kernel_rfl) h.tail.tail
end Go.Proofs.YtaikcpidijekpaaDoor
