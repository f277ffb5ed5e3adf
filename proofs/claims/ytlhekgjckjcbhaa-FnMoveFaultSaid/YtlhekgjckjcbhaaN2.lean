/- Instruments: validity on both sides; reading; the walk of FnExactInstrumentValid. Conditions: none. -/
import Derived.Test.YtlhekgjckjcbhaaN1
namespace Go.Proofs.Ytlhekgjckjcbhaa
open Go.RowKit
set_option linter.unusedSimpArgs false
set_option linter.unusedVariables false
set_option maxHeartbeats 4000000

structure Ins where
  steps : Int
  halves : Int
  low : Int
  high : Int
abbrev Ins.v (i : Ins) : Value := .agg #[.int .i64 i.steps, .int .i64 i.halves, .int .i64 i.low, .int .i64 i.high]
def Ins.cells (i : Ins) : List Value := [.int .i64 i.steps, .int .i64 i.halves, .int .i64 i.low, .int .i64 i.high]
def Ins.Good (i : Ins) : Prop := I64 i.steps ∧ I64 i.halves ∧ I64 i.low ∧ I64 i.high
def insValid (i : Ins) : Bool := ivValid ⟨i.steps, i.halves⟩ && inB i.low 0 107 && inB i.high i.low 107
end Go.Proofs.Ytlhekgjckjcbhaa
