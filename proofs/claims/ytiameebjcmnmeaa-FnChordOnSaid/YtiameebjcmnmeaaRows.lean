/-
  No cell of these rows narrows 'for every input' (looked for: loops, veiled, ifaces, maps, wideKeys, modest, calm, conditions, laid).
  DERIVED. THE GIVEN ROWS OF THIS SEAT. 7 by the template 'for every input the law returns true; each argument reads behind the call as it read before'; 0 by the template 'total and deterministic' (their statements: YtiameebjcmnmeaaTotals.lean).
  GIVEN WITH THE SEED: the statements are not yours to turn. If you find one false, say at which input.
  Laid BY PROGRAM, IN A SANDBOX (cutbox-rows.mjs): the forced cells as the released guide's own fill.sh prints them over the translation 407078ece8b7072f… (all of the seat's roots in one cut). By AI agents, Wed Nov 11 2026. No macro, syntax, notation, axiom, sorry.
-/
import Derived.Test.YtiameebjcmnmeaaChecked
import GoSem.Claim
import GoSem.ClaimJoined
import GoSem.ClaimMapViews
import Derived.JoinedTies
import Derived.KernelRfl
namespace Go.Proofs.Ytiameebjcmnmeaa
/- THE CELL 'sum', in the pinned program and in every row, IS THE sha256 OF THE DUMP (.gsa) THAT YtiameebjcmnmeaaProg.lean LOADS. Nothing in Lean hashes anything: it is a label: what it is worth is what the hold of that sum in a sandbox is worth. -/
noncomputable def Try.pinned : Pinned := { name := "ytiameebjcmnmeaa", sum := "407078ece8b7072f7d4aa838c59583bcb6aafbc5eade31a2340c7a687b89864d", checked := Try.checked }
namespace Rows
def none {H : Type} : Left H := { results := [], args := [] }

/-- 'laws.FnChordOn': WHATEVER THE INPUT: true; the input reads as it did. -/
def fnChordOnSpec : ChangeSpec := { name := "fnChordOn", fn := fun _ => fun
  | [d] => { results := [.lit (.bool true)], args := [d] }
  | _ => none }
def fnChordOnRow : OpenClaim := { program := "ytiameebjcmnmeaa", sum := "407078ece8b7072f7d4aa838c59583bcb6aafbc5eade31a2340c7a687b89864d", func := "loop.example/musicengine/laws.FnChordOn", spec := "fnChordOn", plainKeys := false, apart := false }
def FnChordOnSaid : Prop := fnChordOnRow.holds Try.pinned (OpenSpec.ofChange fnChordOnSpec)

/-- ITS FALSE NEIGHBOUR: 'it returns false'. Refute it at one input. -/
def fnChordOnWrong : ChangeSpec := { name := "fnChordOn", fn := fun _ => fun
  | [d] => { results := [.lit (.bool false)], args := [d] }
  | _ => none }
def FnChordOnWrongFalsely : Prop := fnChordOnRow.holds Try.pinned (OpenSpec.ofChange fnChordOnWrong)

/-- 'laws.FnChordOf': WHATEVER THE INPUT: true; the input reads as it did. -/
def fnChordOfSpec : ChangeSpec := { name := "fnChordOf", fn := fun _ => fun
  | [d] => { results := [.lit (.bool true)], args := [d] }
  | _ => none }
def fnChordOfRow : OpenClaim := { program := "ytiameebjcmnmeaa", sum := "407078ece8b7072f7d4aa838c59583bcb6aafbc5eade31a2340c7a687b89864d", func := "loop.example/musicengine/laws.FnChordOf", spec := "fnChordOf", plainKeys := false, apart := false }
def FnChordOfSaid : Prop := fnChordOfRow.holds Try.pinned (OpenSpec.ofChange fnChordOfSpec)

/-- ITS FALSE NEIGHBOUR: 'it returns false'. Refute it at one input. -/
def fnChordOfWrong : ChangeSpec := { name := "fnChordOf", fn := fun _ => fun
  | [d] => { results := [.lit (.bool false)], args := [d] }
  | _ => none }
def FnChordOfWrongFalsely : Prop := fnChordOfRow.holds Try.pinned (OpenSpec.ofChange fnChordOfWrong)

/-- 'laws.FnChordTurn': WHATEVER THE INPUT: true; the input reads as it did. -/
def fnChordTurnSpec : ChangeSpec := { name := "fnChordTurn", fn := fun _ => fun
  | [d] => { results := [.lit (.bool true)], args := [d] }
  | _ => none }
def fnChordTurnRow : OpenClaim := { program := "ytiameebjcmnmeaa", sum := "407078ece8b7072f7d4aa838c59583bcb6aafbc5eade31a2340c7a687b89864d", func := "loop.example/musicengine/laws.FnChordTurn", spec := "fnChordTurn", plainKeys := false, apart := false }
def FnChordTurnSaid : Prop := fnChordTurnRow.holds Try.pinned (OpenSpec.ofChange fnChordTurnSpec)

/-- ITS FALSE NEIGHBOUR: 'it returns false'. Refute it at one input. -/
def fnChordTurnWrong : ChangeSpec := { name := "fnChordTurn", fn := fun _ => fun
  | [d] => { results := [.lit (.bool false)], args := [d] }
  | _ => none }
def FnChordTurnWrongFalsely : Prop := fnChordTurnRow.holds Try.pinned (OpenSpec.ofChange fnChordTurnWrong)

/-- 'laws.FnExactNameChord': WHATEVER THE INPUT: true; the input reads as it did. -/
def fnExactNameChordSpec : ChangeSpec := { name := "fnExactNameChord", fn := fun _ => fun
  | [d] => { results := [.lit (.bool true)], args := [d] }
  | _ => none }
def fnExactNameChordRow : OpenClaim := { program := "ytiameebjcmnmeaa", sum := "407078ece8b7072f7d4aa838c59583bcb6aafbc5eade31a2340c7a687b89864d", func := "loop.example/musicengine/laws.FnExactNameChord", spec := "fnExactNameChord", plainKeys := false, apart := false }
def FnExactNameChordSaid : Prop := fnExactNameChordRow.holds Try.pinned (OpenSpec.ofChange fnExactNameChordSpec)

/-- ITS FALSE NEIGHBOUR: 'it returns false'. Refute it at one input. -/
def fnExactNameChordWrong : ChangeSpec := { name := "fnExactNameChord", fn := fun _ => fun
  | [d] => { results := [.lit (.bool false)], args := [d] }
  | _ => none }
def FnExactNameChordWrongFalsely : Prop := fnExactNameChordRow.holds Try.pinned (OpenSpec.ofChange fnExactNameChordWrong)

/-- 'laws.FnNameChord': WHATEVER THE INPUT: true; the input reads as it did. -/
def fnNameChordSpec : ChangeSpec := { name := "fnNameChord", fn := fun _ => fun
  | [d] => { results := [.lit (.bool true)], args := [d] }
  | _ => none }
def fnNameChordRow : OpenClaim := { program := "ytiameebjcmnmeaa", sum := "407078ece8b7072f7d4aa838c59583bcb6aafbc5eade31a2340c7a687b89864d", func := "loop.example/musicengine/laws.FnNameChord", spec := "fnNameChord", plainKeys := false, apart := false }
def FnNameChordSaid : Prop := fnNameChordRow.holds Try.pinned (OpenSpec.ofChange fnNameChordSpec)

/-- ITS FALSE NEIGHBOUR: 'it returns false'. Refute it at one input. -/
def fnNameChordWrong : ChangeSpec := { name := "fnNameChord", fn := fun _ => fun
  | [d] => { results := [.lit (.bool false)], args := [d] }
  | _ => none }
def FnNameChordWrongFalsely : Prop := fnNameChordRow.holds Try.pinned (OpenSpec.ofChange fnNameChordWrong)

/-- 'laws.FnExactDegreeOfChord': WHATEVER THE INPUT: true; the input reads as it did. -/
def fnExactDegreeOfChordSpec : ChangeSpec := { name := "fnExactDegreeOfChord", fn := fun _ => fun
  | [d1, d2, d3] => { results := [.lit (.bool true)], args := [d1, d2, d3] }
  | _ => none }
def fnExactDegreeOfChordRow : OpenClaim := { program := "ytiameebjcmnmeaa", sum := "407078ece8b7072f7d4aa838c59583bcb6aafbc5eade31a2340c7a687b89864d", func := "loop.example/musicengine/laws.FnExactDegreeOfChord", spec := "fnExactDegreeOfChord", plainKeys := false, apart := false }
def FnExactDegreeOfChordSaid : Prop := fnExactDegreeOfChordRow.holds Try.pinned (OpenSpec.ofChange fnExactDegreeOfChordSpec)

/-- ITS FALSE NEIGHBOUR: 'it returns false'. Refute it at one input. -/
def fnExactDegreeOfChordWrong : ChangeSpec := { name := "fnExactDegreeOfChord", fn := fun _ => fun
  | [d1, d2, d3] => { results := [.lit (.bool false)], args := [d1, d2, d3] }
  | _ => none }
def FnExactDegreeOfChordWrongFalsely : Prop := fnExactDegreeOfChordRow.holds Try.pinned (OpenSpec.ofChange fnExactDegreeOfChordWrong)

/-- 'laws.FnDegreeOfChord': WHATEVER THE INPUT: true; the input reads as it did. -/
def fnDegreeOfChordSpec : ChangeSpec := { name := "fnDegreeOfChord", fn := fun _ => fun
  | [d] => { results := [.lit (.bool true)], args := [d] }
  | _ => none }
def fnDegreeOfChordRow : OpenClaim := { program := "ytiameebjcmnmeaa", sum := "407078ece8b7072f7d4aa838c59583bcb6aafbc5eade31a2340c7a687b89864d", func := "loop.example/musicengine/laws.FnDegreeOfChord", spec := "fnDegreeOfChord", plainKeys := false, apart := false }
def FnDegreeOfChordSaid : Prop := fnDegreeOfChordRow.holds Try.pinned (OpenSpec.ofChange fnDegreeOfChordSpec)

/-- ITS FALSE NEIGHBOUR: 'it returns false'. Refute it at one input. -/
def fnDegreeOfChordWrong : ChangeSpec := { name := "fnDegreeOfChord", fn := fun _ => fun
  | [d] => { results := [.lit (.bool false)], args := [d] }
  | _ => none }
def FnDegreeOfChordWrongFalsely : Prop := fnDegreeOfChordRow.holds Try.pinned (OpenSpec.ofChange fnDegreeOfChordWrong)

/- THE SECOND FORM. 'bulk': how many values and letters a reading holds, each counted each time it is reached (what is shared counts as often as it is met; a slice's spare places count too). A statement '..UptoSaid' is the law's where the arguments, and the package variables that the reading takes, are together of bulk at most 1048576: NARROWER than '..Said'. Prove '..Said' where nothing that the law and all that it calls make is longer than what came in: it says more and counts as full. Else prove '..UptoSaid'. A law counts once. -/
mutual
def uptoBulk {H : Type} : DataW H → Nat
  | .lit (.string bytes) => bytes.length + 1
  | .lit _ => 1
  | .nil => 1
  | .ptr d => uptoBulk d + 1
  | .slice elems spare => uptoBulkAll elems + uptoBulkAll spare + 1
  | .agg parts => uptoBulkAll parts + 1
  | .iface _ d => uptoBulk d + 1
  | .map entries => uptoBulkEntries entries + 1
  | .held _ => 1
def uptoBulkAll {H : Type} : List (DataW H) → Nat
  | [] => 0
  | d :: r => uptoBulk d + uptoBulkAll r
def uptoBulkEntries {H : Type} : List (Lit × DataW H) → Nat
  | [] => 0
  | x :: r => uptoBulkEntry x + uptoBulkEntries r
def uptoBulkEntry {H : Type} : Lit × DataW H → Nat
  | (.string bytes, d) => bytes.length + uptoBulk d + 1
  | (_, d) => uptoBulk d + 1
 end
def uptoSmall : (H : Type) → List (DataW H) → Bool := fun _ ds => decide (uptoBulkAll ds ≤ 1048576)
def OpenSpec.upto (s : _root_.Go.ChangeSpec) : _root_.Go.OpenSpec := { _root_.Go.OpenSpec.ofChange s with cond := some uptoSmall }

/-- 'laws.FnChordOn', WHERE WHAT IT READS IS OF BULK AT MOST 1048576: true; the input reads as it did. -/
def fnChordOnUptoRow : OpenClaim := { program := "ytiameebjcmnmeaa", sum := "407078ece8b7072f7d4aa838c59583bcb6aafbc5eade31a2340c7a687b89864d", func := "loop.example/musicengine/laws.FnChordOn", spec := "fnChordOn", plainKeys := false, apart := false, narrowed := true }
def FnChordOnUptoSaid : Prop := fnChordOnUptoRow.holds Try.pinned (OpenSpec.upto fnChordOnSpec)

/-- 'laws.FnChordOf', WHERE WHAT IT READS IS OF BULK AT MOST 1048576: true; the input reads as it did. -/
def fnChordOfUptoRow : OpenClaim := { program := "ytiameebjcmnmeaa", sum := "407078ece8b7072f7d4aa838c59583bcb6aafbc5eade31a2340c7a687b89864d", func := "loop.example/musicengine/laws.FnChordOf", spec := "fnChordOf", plainKeys := false, apart := false, narrowed := true }
def FnChordOfUptoSaid : Prop := fnChordOfUptoRow.holds Try.pinned (OpenSpec.upto fnChordOfSpec)

/-- 'laws.FnChordTurn', WHERE WHAT IT READS IS OF BULK AT MOST 1048576: true; the input reads as it did. -/
def fnChordTurnUptoRow : OpenClaim := { program := "ytiameebjcmnmeaa", sum := "407078ece8b7072f7d4aa838c59583bcb6aafbc5eade31a2340c7a687b89864d", func := "loop.example/musicengine/laws.FnChordTurn", spec := "fnChordTurn", plainKeys := false, apart := false, narrowed := true }
def FnChordTurnUptoSaid : Prop := fnChordTurnUptoRow.holds Try.pinned (OpenSpec.upto fnChordTurnSpec)

/-- 'laws.FnExactNameChord', WHERE WHAT IT READS IS OF BULK AT MOST 1048576: true; the input reads as it did. -/
def fnExactNameChordUptoRow : OpenClaim := { program := "ytiameebjcmnmeaa", sum := "407078ece8b7072f7d4aa838c59583bcb6aafbc5eade31a2340c7a687b89864d", func := "loop.example/musicengine/laws.FnExactNameChord", spec := "fnExactNameChord", plainKeys := false, apart := false, narrowed := true }
def FnExactNameChordUptoSaid : Prop := fnExactNameChordUptoRow.holds Try.pinned (OpenSpec.upto fnExactNameChordSpec)

/-- 'laws.FnNameChord', WHERE WHAT IT READS IS OF BULK AT MOST 1048576: true; the input reads as it did. -/
def fnNameChordUptoRow : OpenClaim := { program := "ytiameebjcmnmeaa", sum := "407078ece8b7072f7d4aa838c59583bcb6aafbc5eade31a2340c7a687b89864d", func := "loop.example/musicengine/laws.FnNameChord", spec := "fnNameChord", plainKeys := false, apart := false, narrowed := true }
def FnNameChordUptoSaid : Prop := fnNameChordUptoRow.holds Try.pinned (OpenSpec.upto fnNameChordSpec)

/-- 'laws.FnExactDegreeOfChord', WHERE WHAT IT READS IS OF BULK AT MOST 1048576: true; the input reads as it did. -/
def fnExactDegreeOfChordUptoRow : OpenClaim := { program := "ytiameebjcmnmeaa", sum := "407078ece8b7072f7d4aa838c59583bcb6aafbc5eade31a2340c7a687b89864d", func := "loop.example/musicengine/laws.FnExactDegreeOfChord", spec := "fnExactDegreeOfChord", plainKeys := false, apart := false, narrowed := true }
def FnExactDegreeOfChordUptoSaid : Prop := fnExactDegreeOfChordUptoRow.holds Try.pinned (OpenSpec.upto fnExactDegreeOfChordSpec)

/-- 'laws.FnDegreeOfChord', WHERE WHAT IT READS IS OF BULK AT MOST 1048576: true; the input reads as it did. -/
def fnDegreeOfChordUptoRow : OpenClaim := { program := "ytiameebjcmnmeaa", sum := "407078ece8b7072f7d4aa838c59583bcb6aafbc5eade31a2340c7a687b89864d", func := "loop.example/musicengine/laws.FnDegreeOfChord", spec := "fnDegreeOfChord", plainKeys := false, apart := false, narrowed := true }
def FnDegreeOfChordUptoSaid : Prop := fnDegreeOfChordUptoRow.holds Try.pinned (OpenSpec.upto fnDegreeOfChordSpec)

end Rows
end Go.Proofs.Ytiameebjcmnmeaa
