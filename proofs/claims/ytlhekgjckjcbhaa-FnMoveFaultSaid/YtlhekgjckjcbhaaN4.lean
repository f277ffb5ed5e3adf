/- AddInterval and IntervalBack on both sides. Conditions: none. -/
import Derived.Test.YtlhekgjckjcbhaaN3
namespace Go.Proofs.Ytlhekgjckjcbhaa
open Go.RowKit
set_option linter.unusedSimpArgs false
set_option linter.unusedVariables false
set_option maxHeartbeats 4000000

theorem addIv_no {p : Pit} {i : Iv} (h : ¬ (pitchValid p = true ∧ ivValid i = true)) : addVal (addIv p i) = .tuple #[.agg #[.int .i64 0, .int .i64 0, .int .i64 0], .bool false] := by
  unfold addIv; rw [if_neg h]; rfl
theorem addIv_yes {p : Pit} {i : Iv} (h1 : pitchValid p = true) (h2 : ivValid i = true) : addIv p i = pitchW (pitPlace p + i.steps) (keyOf p + i.halves) := by
  unfold addIv; rw [if_pos ⟨h1, h2⟩]
theorem addVal_cases (o : Option Pit) : (∃ q, o = some q) ∨ o = none := by cases o <;> simp
end Go.Proofs.Ytlhekgjckjcbhaa
