/- The walk of FnExactChordOn. Conditions: none. -/
import Derived.Test.YtiameebjcmnmeaaK3
import Derived.Test.YtiameebjcmnmeaaC0
namespace Go.Proofs.Ytiameebjcmnmeaa
open Go.RowKit
set_option linter.unusedSimpArgs false
set_option linter.unusedVariables false
set_option maxHeartbeats 8000000
theorem bel_mark {B base size n : Nat} {e : TypeId} {v : Value} {xs : List Value} {w w' : World} (h : w.ownsRow base e size v n xs) (hk : w.grownBy w' v.ownBlock) (hb : B ≤ base) (hB : B ≤ w.heap.size) : Below B w w' := by
  refine ⟨hk.os, hk.tape, hk.output, hk.size, fun i hi => hk.block i (by omega) ?_⟩
  intro hh
  cases hv : v.ownBlock with
  | none => rw [hv] at hh; cases hh
  | some k =>
    rw [hv] at hh
    cases hh
    have := (h.lt i hv).1
    omega
theorem chordOn_len (f : Int) (m : Bool) (d : Int) (s : Bool) : (chordOn f m d s).length ≤ 4 := by
  unfold chordOn
  split
  · rw [scaleTo_len]; split <;> omega
  · simp
end Go.Proofs.Ytiameebjcmnmeaa
