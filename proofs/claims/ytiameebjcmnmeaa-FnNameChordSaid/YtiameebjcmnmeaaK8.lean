/- The walk of FnExactKeyClasses. Conditions: none beyond the law's own. -/
import Derived.Test.YtiameebjcmnmeaaK4
import Derived.Test.YtiameebjcmnmeaaKM
import Derived.Test.YtiameebjcmnmeaaK5
namespace Go.Proofs.Ytiameebjcmnmeaa
open Go.RowKit
set_option linter.unusedSimpArgs false
set_option linter.unusedVariables false
set_option maxHeartbeats 16000000
theorem own_apart {w : World} {B1 B2 e1 e2 s1 s2 n1 n2 : Nat} {v1 v2 : Value} {x1 x2 : List Value} (h : w.ownsRow B1 e1 s1 v1 n1 x1) (hlt : ∀ k, v1.ownBlock = some k → k < B2) {W : World} (h2 : W.ownsRow B2 e2 s2 v2 n2 x2) : v2.ownBlock = none ∨ v2.ownBlock ≠ v1.ownBlock := by
  cases hv : v2.ownBlock with
  | none => exact .inl rfl
  | some k =>
    right
    intro hh
    have h3 := hlt k hh.symm
    have h4 := (h2.lt k hv).1
    omega
end Go.Proofs.Ytiameebjcmnmeaa
