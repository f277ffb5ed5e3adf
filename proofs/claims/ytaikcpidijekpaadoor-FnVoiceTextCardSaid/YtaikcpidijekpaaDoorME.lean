/- One closed fact on the whole program, evaluated once for all rows of the seat: it may be entered. Conditions: none. -/
import Derived.Test.YtaikcpidijekpaaDoorRows
namespace Go.Proofs.YtaikcpidijekpaaDoor
theorem band {a b : Bool} (h : a = true) (k : b = true) : (a && b) = true := by rw [h, k]; rfl
set_option maxRecDepth 100000 in
theorem may_enter : Tryd.pinned.checked.prog.mayEnter = true := by kernel_rfl
end Go.Proofs.YtaikcpidijekpaaDoor
