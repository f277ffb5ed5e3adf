/-
  No cell of these rows narrows 'for every input' (looked for: loops, veiled, ifaces, maps, wideKeys, modest, calm, conditions, laid).
  DERIVED. THE GIVEN ROWS OF THIS SEAT. 10 by the template 'for every input the law returns true; each argument reads behind the call as it read before'; 0 by the template 'total and deterministic' (their statements: YtpbmmhdpmpoabaaTotals.lean).
  GIVEN WITH THE SEED: the statements are not yours to turn. If you find one false, say at which input.
  Laid BY PROGRAM, IN A SANDBOX (cutbox-rows.mjs): the forced cells as the released guide's own fill.sh prints them over the translation 538f46ce1169d007… (all of the seat's roots in one cut). By AI agents, Wed Nov 11 2026. No macro, syntax, notation, axiom, sorry.
-/
import Derived.Test.YtpbmmhdpmpoabaaChecked
import GoSem.Claim
import GoSem.ClaimJoined
import GoSem.ClaimMapViews
import Derived.JoinedTies
import Derived.KernelRfl
namespace Go.Proofs.Ytpbmmhdpmpoabaa
/- THE CELL 'sum', in the pinned program and in every row, IS THE sha256 OF THE DUMP (.gsa) THAT YtpbmmhdpmpoabaaProg.lean LOADS. Nothing in Lean hashes anything: it is a label: what it is worth is what the hold of that sum in a sandbox is worth. -/
noncomputable def Try.pinned : Pinned := { name := "ytpbmmhdpmpoabaa", sum := "538f46ce1169d007b7dd56ec3f4865f5837c9e10b05ee00c358b5670ed66c437", checked := Try.checked }
namespace Rows
def none {H : Type} : Left H := { results := [], args := [] }

/-- 'laws.FnExactStackFault': WHATEVER THE INPUT: true; the input reads as it did. -/
def fnExactStackFaultSpec : ChangeSpec := { name := "fnExactStackFault", fn := fun _ => fun
  | [d] => { results := [.lit (.bool true)], args := [d] }
  | _ => none }
def fnExactStackFaultRow : OpenClaim := { program := "ytpbmmhdpmpoabaa", sum := "538f46ce1169d007b7dd56ec3f4865f5837c9e10b05ee00c358b5670ed66c437", func := "loop.example/musicengine/laws.FnExactStackFault", spec := "fnExactStackFault", apart := false }
def FnExactStackFaultSaid : Prop := fnExactStackFaultRow.holds Try.pinned (OpenSpec.ofChange fnExactStackFaultSpec)

/-- ITS FALSE NEIGHBOUR: 'it returns false'. Refute it at one input. -/
def fnExactStackFaultWrong : ChangeSpec := { name := "fnExactStackFault", fn := fun _ => fun
  | [d] => { results := [.lit (.bool false)], args := [d] }
  | _ => none }
def FnExactStackFaultWrongFalsely : Prop := fnExactStackFaultRow.holds Try.pinned (OpenSpec.ofChange fnExactStackFaultWrong)

/-- 'laws.FnStackFault': WHATEVER THE INPUT: true; the input reads as it did. -/
def fnStackFaultSpec : ChangeSpec := { name := "fnStackFault", fn := fun _ => fun
  | [d] => { results := [.lit (.bool true)], args := [d] }
  | _ => none }
def fnStackFaultRow : OpenClaim := { program := "ytpbmmhdpmpoabaa", sum := "538f46ce1169d007b7dd56ec3f4865f5837c9e10b05ee00c358b5670ed66c437", func := "loop.example/musicengine/laws.FnStackFault", spec := "fnStackFault", apart := false }
def FnStackFaultSaid : Prop := fnStackFaultRow.holds Try.pinned (OpenSpec.ofChange fnStackFaultSpec)

/-- ITS FALSE NEIGHBOUR: 'it returns false'. Refute it at one input. -/
def fnStackFaultWrong : ChangeSpec := { name := "fnStackFault", fn := fun _ => fun
  | [d] => { results := [.lit (.bool false)], args := [d] }
  | _ => none }
def FnStackFaultWrongFalsely : Prop := fnStackFaultRow.holds Try.pinned (OpenSpec.ofChange fnStackFaultWrong)

/-- 'laws.FnExactMoveFault': WHATEVER THE INPUT: true; the input reads as it did. -/
def fnExactMoveFaultSpec : ChangeSpec := { name := "fnExactMoveFault", fn := fun _ => fun
  | [d1, d2] => { results := [.lit (.bool true)], args := [d1, d2] }
  | _ => none }
def fnExactMoveFaultRow : OpenClaim := { program := "ytpbmmhdpmpoabaa", sum := "538f46ce1169d007b7dd56ec3f4865f5837c9e10b05ee00c358b5670ed66c437", func := "loop.example/musicengine/laws.FnExactMoveFault", spec := "fnExactMoveFault", apart := false }
def FnExactMoveFaultSaid : Prop := fnExactMoveFaultRow.holds Try.pinned (OpenSpec.ofChange fnExactMoveFaultSpec)

/-- ITS FALSE NEIGHBOUR: 'it returns false'. Refute it at one input. -/
def fnExactMoveFaultWrong : ChangeSpec := { name := "fnExactMoveFault", fn := fun _ => fun
  | [d1, d2] => { results := [.lit (.bool false)], args := [d1, d2] }
  | _ => none }
def FnExactMoveFaultWrongFalsely : Prop := fnExactMoveFaultRow.holds Try.pinned (OpenSpec.ofChange fnExactMoveFaultWrong)

/-- 'laws.FnMoveFault': WHATEVER THE INPUT: true; the input reads as it did. -/
def fnMoveFaultSpec : ChangeSpec := { name := "fnMoveFault", fn := fun _ => fun
  | [d] => { results := [.lit (.bool true)], args := [d] }
  | _ => none }
def fnMoveFaultRow : OpenClaim := { program := "ytpbmmhdpmpoabaa", sum := "538f46ce1169d007b7dd56ec3f4865f5837c9e10b05ee00c358b5670ed66c437", func := "loop.example/musicengine/laws.FnMoveFault", spec := "fnMoveFault", apart := false }
def FnMoveFaultSaid : Prop := fnMoveFaultRow.holds Try.pinned (OpenSpec.ofChange fnMoveFaultSpec)

/-- ITS FALSE NEIGHBOUR: 'it returns false'. Refute it at one input. -/
def fnMoveFaultWrong : ChangeSpec := { name := "fnMoveFault", fn := fun _ => fun
  | [d] => { results := [.lit (.bool false)], args := [d] }
  | _ => none }
def FnMoveFaultWrongFalsely : Prop := fnMoveFaultRow.holds Try.pinned (OpenSpec.ofChange fnMoveFaultWrong)

/-- 'laws.FnExactKeyClasses': WHATEVER THE INPUT: true; the input reads as it did. -/
def fnExactKeyClassesSpec : ChangeSpec := { name := "fnExactKeyClasses", fn := fun _ => fun
  | [d] => { results := [.lit (.bool true)], args := [d] }
  | _ => none }
def fnExactKeyClassesRow : OpenClaim := { program := "ytpbmmhdpmpoabaa", sum := "538f46ce1169d007b7dd56ec3f4865f5837c9e10b05ee00c358b5670ed66c437", func := "loop.example/musicengine/laws.FnExactKeyClasses", spec := "fnExactKeyClasses", apart := false }
def FnExactKeyClassesSaid : Prop := fnExactKeyClassesRow.holds Try.pinned (OpenSpec.ofChange fnExactKeyClassesSpec)

/-- ITS FALSE NEIGHBOUR: 'it returns false'. Refute it at one input. -/
def fnExactKeyClassesWrong : ChangeSpec := { name := "fnExactKeyClasses", fn := fun _ => fun
  | [d] => { results := [.lit (.bool false)], args := [d] }
  | _ => none }
def FnExactKeyClassesWrongFalsely : Prop := fnExactKeyClassesRow.holds Try.pinned (OpenSpec.ofChange fnExactKeyClassesWrong)

/-- 'laws.FnKeyClasses': WHATEVER THE INPUT: true; the input reads as it did. -/
def fnKeyClassesSpec : ChangeSpec := { name := "fnKeyClasses", fn := fun _ => fun
  | [d] => { results := [.lit (.bool true)], args := [d] }
  | _ => none }
def fnKeyClassesRow : OpenClaim := { program := "ytpbmmhdpmpoabaa", sum := "538f46ce1169d007b7dd56ec3f4865f5837c9e10b05ee00c358b5670ed66c437", func := "loop.example/musicengine/laws.FnKeyClasses", spec := "fnKeyClasses", apart := false }
def FnKeyClassesSaid : Prop := fnKeyClassesRow.holds Try.pinned (OpenSpec.ofChange fnKeyClassesSpec)

/-- ITS FALSE NEIGHBOUR: 'it returns false'. Refute it at one input. -/
def fnKeyClassesWrong : ChangeSpec := { name := "fnKeyClasses", fn := fun _ => fun
  | [d] => { results := [.lit (.bool false)], args := [d] }
  | _ => none }
def FnKeyClassesWrongFalsely : Prop := fnKeyClassesRow.holds Try.pinned (OpenSpec.ofChange fnKeyClassesWrong)

/-- 'laws.FnMinorMajor': WHATEVER THE INPUT: true; the input reads as it did. -/
def fnMinorMajorSpec : ChangeSpec := { name := "fnMinorMajor", fn := fun _ => fun
  | [d] => { results := [.lit (.bool true)], args := [d] }
  | _ => none }
def fnMinorMajorRow : OpenClaim := { program := "ytpbmmhdpmpoabaa", sum := "538f46ce1169d007b7dd56ec3f4865f5837c9e10b05ee00c358b5670ed66c437", func := "loop.example/musicengine/laws.FnMinorMajor", spec := "fnMinorMajor", apart := false }
def FnMinorMajorSaid : Prop := fnMinorMajorRow.holds Try.pinned (OpenSpec.ofChange fnMinorMajorSpec)

/-- ITS FALSE NEIGHBOUR: 'it returns false'. Refute it at one input. -/
def fnMinorMajorWrong : ChangeSpec := { name := "fnMinorMajor", fn := fun _ => fun
  | [d] => { results := [.lit (.bool false)], args := [d] }
  | _ => none }
def FnMinorMajorWrongFalsely : Prop := fnMinorMajorRow.holds Try.pinned (OpenSpec.ofChange fnMinorMajorWrong)

/-- 'laws.FnExactChordOn': WHATEVER THE INPUT: true; the input reads as it did. -/
def fnExactChordOnSpec : ChangeSpec := { name := "fnExactChordOn", fn := fun _ => fun
  | [d1, d2, d3, d4] => { results := [.lit (.bool true)], args := [d1, d2, d3, d4] }
  | _ => none }
def fnExactChordOnRow : OpenClaim := { program := "ytpbmmhdpmpoabaa", sum := "538f46ce1169d007b7dd56ec3f4865f5837c9e10b05ee00c358b5670ed66c437", func := "loop.example/musicengine/laws.FnExactChordOn", spec := "fnExactChordOn", apart := false }
def FnExactChordOnSaid : Prop := fnExactChordOnRow.holds Try.pinned (OpenSpec.ofChange fnExactChordOnSpec)

/-- ITS FALSE NEIGHBOUR: 'it returns false'. Refute it at one input. -/
def fnExactChordOnWrong : ChangeSpec := { name := "fnExactChordOn", fn := fun _ => fun
  | [d1, d2, d3, d4] => { results := [.lit (.bool false)], args := [d1, d2, d3, d4] }
  | _ => none }
def FnExactChordOnWrongFalsely : Prop := fnExactChordOnRow.holds Try.pinned (OpenSpec.ofChange fnExactChordOnWrong)

/-- 'laws.FnExactChordOf': WHATEVER THE INPUT: true; the input reads as it did. -/
def fnExactChordOfSpec : ChangeSpec := { name := "fnExactChordOf", fn := fun _ => fun
  | [d1, d2] => { results := [.lit (.bool true)], args := [d1, d2] }
  | _ => none }
def fnExactChordOfRow : OpenClaim := { program := "ytpbmmhdpmpoabaa", sum := "538f46ce1169d007b7dd56ec3f4865f5837c9e10b05ee00c358b5670ed66c437", func := "loop.example/musicengine/laws.FnExactChordOf", spec := "fnExactChordOf", apart := false }
def FnExactChordOfSaid : Prop := fnExactChordOfRow.holds Try.pinned (OpenSpec.ofChange fnExactChordOfSpec)

/-- ITS FALSE NEIGHBOUR: 'it returns false'. Refute it at one input. -/
def fnExactChordOfWrong : ChangeSpec := { name := "fnExactChordOf", fn := fun _ => fun
  | [d1, d2] => { results := [.lit (.bool false)], args := [d1, d2] }
  | _ => none }
def FnExactChordOfWrongFalsely : Prop := fnExactChordOfRow.holds Try.pinned (OpenSpec.ofChange fnExactChordOfWrong)

/-- 'laws.FnChordMoved': WHATEVER THE INPUT: true; the input reads as it did. -/
def fnChordMovedSpec : ChangeSpec := { name := "fnChordMoved", fn := fun _ => fun
  | [d1, d2] => { results := [.lit (.bool true)], args := [d1, d2] }
  | _ => none }
def fnChordMovedRow : OpenClaim := { program := "ytpbmmhdpmpoabaa", sum := "538f46ce1169d007b7dd56ec3f4865f5837c9e10b05ee00c358b5670ed66c437", func := "loop.example/musicengine/laws.FnChordMoved", spec := "fnChordMoved", apart := false }
def FnChordMovedSaid : Prop := fnChordMovedRow.holds Try.pinned (OpenSpec.ofChange fnChordMovedSpec)

/-- ITS FALSE NEIGHBOUR: 'it returns false'. Refute it at one input. -/
def fnChordMovedWrong : ChangeSpec := { name := "fnChordMoved", fn := fun _ => fun
  | [d1, d2] => { results := [.lit (.bool false)], args := [d1, d2] }
  | _ => none }
def FnChordMovedWrongFalsely : Prop := fnChordMovedRow.holds Try.pinned (OpenSpec.ofChange fnChordMovedWrong)

/- THE SECOND FORM. 'bulk': how many values and letters a reading holds, each counted each time it is reached (what is shared counts as often as it is met; a slice's spare places count too). A statement '..UptoSaid' is the law's where the arguments, and the package variables that the reading takes, are together of bulk at most 1048576: NARROWER than '..Said'. Prove '..Said' where nothing that the law and all that it calls make is longer than what came in: it says more and counts as full. Else prove '..UptoSaid'. A law counts once. -/
mutual
def uptoBulk {H : Type} : DataW H → Nat
  | .lit (.string bytes) => bytes.length + 1
  | .lit _ => 1
  | .nil => 1
  | .ptr d => uptoBulk d + 1
  | .slice elems spare => uptoBulkAll elems + uptoBulkAll spare + 1
  | .agg parts => uptoBulkAll parts + 1
  | .iface _ d => uptoBulk d + 1
  | .map entries => uptoBulkEntries entries + 1
  | .held _ => 1
def uptoBulkAll {H : Type} : List (DataW H) → Nat
  | [] => 0
  | d :: r => uptoBulk d + uptoBulkAll r
def uptoBulkEntries {H : Type} : List (Lit × DataW H) → Nat
  | [] => 0
  | x :: r => uptoBulkEntry x + uptoBulkEntries r
def uptoBulkEntry {H : Type} : Lit × DataW H → Nat
  | (.string bytes, d) => bytes.length + uptoBulk d + 1
  | (_, d) => uptoBulk d + 1
 end
def uptoSmall : (H : Type) → List (DataW H) → Bool := fun _ ds => decide (uptoBulkAll ds ≤ 1048576)
def OpenSpec.upto (s : _root_.Go.ChangeSpec) : _root_.Go.OpenSpec := { _root_.Go.OpenSpec.ofChange s with cond := some uptoSmall }

/-- 'laws.FnExactStackFault', WHERE WHAT IT READS IS OF BULK AT MOST 1048576: true; the input reads as it did. -/
def fnExactStackFaultUptoRow : OpenClaim := { program := "ytpbmmhdpmpoabaa", sum := "538f46ce1169d007b7dd56ec3f4865f5837c9e10b05ee00c358b5670ed66c437", func := "loop.example/musicengine/laws.FnExactStackFault", spec := "fnExactStackFault", apart := false, narrowed := true }
def FnExactStackFaultUptoSaid : Prop := fnExactStackFaultUptoRow.holds Try.pinned (OpenSpec.upto fnExactStackFaultSpec)

/-- 'laws.FnStackFault', WHERE WHAT IT READS IS OF BULK AT MOST 1048576: true; the input reads as it did. -/
def fnStackFaultUptoRow : OpenClaim := { program := "ytpbmmhdpmpoabaa", sum := "538f46ce1169d007b7dd56ec3f4865f5837c9e10b05ee00c358b5670ed66c437", func := "loop.example/musicengine/laws.FnStackFault", spec := "fnStackFault", apart := false, narrowed := true }
def FnStackFaultUptoSaid : Prop := fnStackFaultUptoRow.holds Try.pinned (OpenSpec.upto fnStackFaultSpec)

/-- 'laws.FnExactMoveFault', WHERE WHAT IT READS IS OF BULK AT MOST 1048576: true; the input reads as it did. -/
def fnExactMoveFaultUptoRow : OpenClaim := { program := "ytpbmmhdpmpoabaa", sum := "538f46ce1169d007b7dd56ec3f4865f5837c9e10b05ee00c358b5670ed66c437", func := "loop.example/musicengine/laws.FnExactMoveFault", spec := "fnExactMoveFault", apart := false, narrowed := true }
def FnExactMoveFaultUptoSaid : Prop := fnExactMoveFaultUptoRow.holds Try.pinned (OpenSpec.upto fnExactMoveFaultSpec)

/-- 'laws.FnMoveFault', WHERE WHAT IT READS IS OF BULK AT MOST 1048576: true; the input reads as it did. -/
def fnMoveFaultUptoRow : OpenClaim := { program := "ytpbmmhdpmpoabaa", sum := "538f46ce1169d007b7dd56ec3f4865f5837c9e10b05ee00c358b5670ed66c437", func := "loop.example/musicengine/laws.FnMoveFault", spec := "fnMoveFault", apart := false, narrowed := true }
def FnMoveFaultUptoSaid : Prop := fnMoveFaultUptoRow.holds Try.pinned (OpenSpec.upto fnMoveFaultSpec)

/-- 'laws.FnExactKeyClasses', WHERE WHAT IT READS IS OF BULK AT MOST 1048576: true; the input reads as it did. -/
def fnExactKeyClassesUptoRow : OpenClaim := { program := "ytpbmmhdpmpoabaa", sum := "538f46ce1169d007b7dd56ec3f4865f5837c9e10b05ee00c358b5670ed66c437", func := "loop.example/musicengine/laws.FnExactKeyClasses", spec := "fnExactKeyClasses", apart := false, narrowed := true }
def FnExactKeyClassesUptoSaid : Prop := fnExactKeyClassesUptoRow.holds Try.pinned (OpenSpec.upto fnExactKeyClassesSpec)

/-- 'laws.FnKeyClasses', WHERE WHAT IT READS IS OF BULK AT MOST 1048576: true; the input reads as it did. -/
def fnKeyClassesUptoRow : OpenClaim := { program := "ytpbmmhdpmpoabaa", sum := "538f46ce1169d007b7dd56ec3f4865f5837c9e10b05ee00c358b5670ed66c437", func := "loop.example/musicengine/laws.FnKeyClasses", spec := "fnKeyClasses", apart := false, narrowed := true }
def FnKeyClassesUptoSaid : Prop := fnKeyClassesUptoRow.holds Try.pinned (OpenSpec.upto fnKeyClassesSpec)

/-- 'laws.FnMinorMajor', WHERE WHAT IT READS IS OF BULK AT MOST 1048576: true; the input reads as it did. -/
def fnMinorMajorUptoRow : OpenClaim := { program := "ytpbmmhdpmpoabaa", sum := "538f46ce1169d007b7dd56ec3f4865f5837c9e10b05ee00c358b5670ed66c437", func := "loop.example/musicengine/laws.FnMinorMajor", spec := "fnMinorMajor", apart := false, narrowed := true }
def FnMinorMajorUptoSaid : Prop := fnMinorMajorUptoRow.holds Try.pinned (OpenSpec.upto fnMinorMajorSpec)

/-- 'laws.FnExactChordOn', WHERE WHAT IT READS IS OF BULK AT MOST 1048576: true; the input reads as it did. -/
def fnExactChordOnUptoRow : OpenClaim := { program := "ytpbmmhdpmpoabaa", sum := "538f46ce1169d007b7dd56ec3f4865f5837c9e10b05ee00c358b5670ed66c437", func := "loop.example/musicengine/laws.FnExactChordOn", spec := "fnExactChordOn", apart := false, narrowed := true }
def FnExactChordOnUptoSaid : Prop := fnExactChordOnUptoRow.holds Try.pinned (OpenSpec.upto fnExactChordOnSpec)

/-- 'laws.FnExactChordOf', WHERE WHAT IT READS IS OF BULK AT MOST 1048576: true; the input reads as it did. -/
def fnExactChordOfUptoRow : OpenClaim := { program := "ytpbmmhdpmpoabaa", sum := "538f46ce1169d007b7dd56ec3f4865f5837c9e10b05ee00c358b5670ed66c437", func := "loop.example/musicengine/laws.FnExactChordOf", spec := "fnExactChordOf", apart := false, narrowed := true }
def FnExactChordOfUptoSaid : Prop := fnExactChordOfUptoRow.holds Try.pinned (OpenSpec.upto fnExactChordOfSpec)

/-- 'laws.FnChordMoved', WHERE WHAT IT READS IS OF BULK AT MOST 1048576: true; the input reads as it did. -/
def fnChordMovedUptoRow : OpenClaim := { program := "ytpbmmhdpmpoabaa", sum := "538f46ce1169d007b7dd56ec3f4865f5837c9e10b05ee00c358b5670ed66c437", func := "loop.example/musicengine/laws.FnChordMoved", spec := "fnChordMoved", apart := false, narrowed := true }
def FnChordMovedUptoSaid : Prop := fnChordMovedUptoRow.holds Try.pinned (OpenSpec.upto fnChordMovedSpec)

end Rows
end Go.Proofs.Ytpbmmhdpmpoabaa
