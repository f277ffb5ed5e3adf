/-
  No cell of these rows narrows 'for every input' (looked for: loops, veiled, ifaces, maps, wideKeys, modest, calm, conditions, laid).
  DERIVED. THE GIVEN ROWS OF THIS SEAT. 6 by the template 'for every input the law returns true; each argument reads behind the call as it read before'; 0 by the template 'total and deterministic' (their statements: YtlhekgjckjcbhaaTotals.lean).
  GIVEN WITH THE SEED: the statements are not yours to turn. If you find one false, say at which input.
  Laid BY PROGRAM, IN A SANDBOX (cutbox-rows.mjs): the forced cells as the released guide's own fill.sh prints them over the translation 680eda0ba88e5488… (all of the seat's roots in one cut). By AI agents, Wed Nov 11 2026. No macro, syntax, notation, axiom, sorry.
-/
import Derived.Test.YtlhekgjckjcbhaaChecked
import GoSem.Claim
import GoSem.ClaimJoined
import GoSem.ClaimMapViews
import Derived.JoinedTies
import Derived.KernelRfl
namespace Go.Proofs.Ytlhekgjckjcbhaa
/- THE CELL 'sum', in the pinned program and in every row, IS THE sha256 OF THE DUMP (.gsa) THAT YtlhekgjckjcbhaaProg.lean LOADS. Nothing in Lean hashes anything: it is a label: what it is worth is what the hold of that sum in a sandbox is worth. -/
noncomputable def Try.pinned : Pinned := { name := "ytlhekgjckjcbhaa", sum := "680eda0ba88e5488bdec04a6a6876140674bec921e39a72bb50007e9d2f7c07b", checked := Try.checked }
namespace Rows
def none {H : Type} : Left H := { results := [], args := [] }

/-- 'laws.FnStackFault': WHATEVER THE INPUT: true; the input reads as it did. -/
def fnStackFaultSpec : ChangeSpec := { name := "fnStackFault", fn := fun _ => fun
  | [d] => { results := [.lit (.bool true)], args := [d] }
  | _ => none }
def fnStackFaultRow : OpenClaim := { program := "ytlhekgjckjcbhaa", sum := "680eda0ba88e5488bdec04a6a6876140674bec921e39a72bb50007e9d2f7c07b", func := "loop.example/musicengine/laws.FnStackFault", spec := "fnStackFault", apart := false }
def FnStackFaultSaid : Prop := fnStackFaultRow.holds Try.pinned (OpenSpec.ofChange fnStackFaultSpec)

/-- ITS FALSE NEIGHBOUR: 'it returns false'. Refute it at one input. -/
def fnStackFaultWrong : ChangeSpec := { name := "fnStackFault", fn := fun _ => fun
  | [d] => { results := [.lit (.bool false)], args := [d] }
  | _ => none }
def FnStackFaultWrongFalsely : Prop := fnStackFaultRow.holds Try.pinned (OpenSpec.ofChange fnStackFaultWrong)

/-- 'laws.FnMoveFault': WHATEVER THE INPUT: true; the input reads as it did. -/
def fnMoveFaultSpec : ChangeSpec := { name := "fnMoveFault", fn := fun _ => fun
  | [d] => { results := [.lit (.bool true)], args := [d] }
  | _ => none }
def fnMoveFaultRow : OpenClaim := { program := "ytlhekgjckjcbhaa", sum := "680eda0ba88e5488bdec04a6a6876140674bec921e39a72bb50007e9d2f7c07b", func := "loop.example/musicengine/laws.FnMoveFault", spec := "fnMoveFault", apart := false }
def FnMoveFaultSaid : Prop := fnMoveFaultRow.holds Try.pinned (OpenSpec.ofChange fnMoveFaultSpec)

/-- ITS FALSE NEIGHBOUR: 'it returns false'. Refute it at one input. -/
def fnMoveFaultWrong : ChangeSpec := { name := "fnMoveFault", fn := fun _ => fun
  | [d] => { results := [.lit (.bool false)], args := [d] }
  | _ => none }
def FnMoveFaultWrongFalsely : Prop := fnMoveFaultRow.holds Try.pinned (OpenSpec.ofChange fnMoveFaultWrong)

/-- 'laws.FnBeatAt': WHATEVER THE INPUT: true; the input reads as it did. -/
def fnBeatAtSpec : ChangeSpec := { name := "fnBeatAt", fn := fun _ => fun
  | [d] => { results := [.lit (.bool true)], args := [d] }
  | _ => none }
def fnBeatAtRow : OpenClaim := { program := "ytlhekgjckjcbhaa", sum := "680eda0ba88e5488bdec04a6a6876140674bec921e39a72bb50007e9d2f7c07b", func := "loop.example/musicengine/laws.FnBeatAt", spec := "fnBeatAt", apart := false }
def FnBeatAtSaid : Prop := fnBeatAtRow.holds Try.pinned (OpenSpec.ofChange fnBeatAtSpec)

/-- ITS FALSE NEIGHBOUR: 'it returns false'. Refute it at one input. -/
def fnBeatAtWrong : ChangeSpec := { name := "fnBeatAt", fn := fun _ => fun
  | [d] => { results := [.lit (.bool false)], args := [d] }
  | _ => none }
def FnBeatAtWrongFalsely : Prop := fnBeatAtRow.holds Try.pinned (OpenSpec.ofChange fnBeatAtWrong)

/-- 'laws.FnSectionValid': WHATEVER THE INPUT: true; the input reads as it did. -/
def fnSectionValidSpec : ChangeSpec := { name := "fnSectionValid", fn := fun _ => fun
  | [d] => { results := [.lit (.bool true)], args := [d] }
  | _ => none }
def fnSectionValidRow : OpenClaim := { program := "ytlhekgjckjcbhaa", sum := "680eda0ba88e5488bdec04a6a6876140674bec921e39a72bb50007e9d2f7c07b", func := "loop.example/musicengine/laws.FnSectionValid", spec := "fnSectionValid", apart := false }
def FnSectionValidSaid : Prop := fnSectionValidRow.holds Try.pinned (OpenSpec.ofChange fnSectionValidSpec)

/-- ITS FALSE NEIGHBOUR: 'it returns false'. Refute it at one input. -/
def fnSectionValidWrong : ChangeSpec := { name := "fnSectionValid", fn := fun _ => fun
  | [d] => { results := [.lit (.bool false)], args := [d] }
  | _ => none }
def FnSectionValidWrongFalsely : Prop := fnSectionValidRow.holds Try.pinned (OpenSpec.ofChange fnSectionValidWrong)

/-- 'laws.FnExactUnfoldBars': WHATEVER THE INPUT: true; the input reads as it did. -/
def fnExactUnfoldBarsSpec : ChangeSpec := { name := "fnExactUnfoldBars", fn := fun _ => fun
  | [d1, d2] => { results := [.lit (.bool true)], args := [d1, d2] }
  | _ => none }
def fnExactUnfoldBarsRow : OpenClaim := { program := "ytlhekgjckjcbhaa", sum := "680eda0ba88e5488bdec04a6a6876140674bec921e39a72bb50007e9d2f7c07b", func := "loop.example/musicengine/laws.FnExactUnfoldBars", spec := "fnExactUnfoldBars", apart := false }
def FnExactUnfoldBarsSaid : Prop := fnExactUnfoldBarsRow.holds Try.pinned (OpenSpec.ofChange fnExactUnfoldBarsSpec)

/-- ITS FALSE NEIGHBOUR: 'it returns false'. Refute it at one input. -/
def fnExactUnfoldBarsWrong : ChangeSpec := { name := "fnExactUnfoldBars", fn := fun _ => fun
  | [d1, d2] => { results := [.lit (.bool false)], args := [d1, d2] }
  | _ => none }
def FnExactUnfoldBarsWrongFalsely : Prop := fnExactUnfoldBarsRow.holds Try.pinned (OpenSpec.ofChange fnExactUnfoldBarsWrong)

/-- 'laws.FnUnfoldBars': WHATEVER THE INPUT: true; the input reads as it did. -/
def fnUnfoldBarsSpec : ChangeSpec := { name := "fnUnfoldBars", fn := fun _ => fun
  | [d] => { results := [.lit (.bool true)], args := [d] }
  | _ => none }
def fnUnfoldBarsRow : OpenClaim := { program := "ytlhekgjckjcbhaa", sum := "680eda0ba88e5488bdec04a6a6876140674bec921e39a72bb50007e9d2f7c07b", func := "loop.example/musicengine/laws.FnUnfoldBars", spec := "fnUnfoldBars", apart := false }
def FnUnfoldBarsSaid : Prop := fnUnfoldBarsRow.holds Try.pinned (OpenSpec.ofChange fnUnfoldBarsSpec)

/-- ITS FALSE NEIGHBOUR: 'it returns false'. Refute it at one input. -/
def fnUnfoldBarsWrong : ChangeSpec := { name := "fnUnfoldBars", fn := fun _ => fun
  | [d] => { results := [.lit (.bool false)], args := [d] }
  | _ => none }
def FnUnfoldBarsWrongFalsely : Prop := fnUnfoldBarsRow.holds Try.pinned (OpenSpec.ofChange fnUnfoldBarsWrong)

/- THE SECOND FORM. 'bulk': how many values and letters a reading holds, each counted each time it is reached (what is shared counts as often as it is met; a slice's spare places count too). A statement '..UptoSaid' is the law's where the arguments, and the package variables that the reading takes, are together of bulk at most 1048576: NARROWER than '..Said'. Prove '..Said' where nothing that the law and all that it calls make is longer than what came in: it says more and counts as full. Else prove '..UptoSaid'. A law counts once. -/
mutual
def uptoBulk {H : Type} : DataW H → Nat
  | .lit (.string bytes) => bytes.length + 1
  | .lit _ => 1
  | .nil => 1
  | .ptr d => uptoBulk d + 1
  | .slice elems spare => uptoBulkAll elems + uptoBulkAll spare + 1
  | .agg parts => uptoBulkAll parts + 1
  | .iface _ d => uptoBulk d + 1
  | .map entries => uptoBulkEntries entries + 1
  | .held _ => 1
def uptoBulkAll {H : Type} : List (DataW H) → Nat
  | [] => 0
  | d :: r => uptoBulk d + uptoBulkAll r
def uptoBulkEntries {H : Type} : List (Lit × DataW H) → Nat
  | [] => 0
  | x :: r => uptoBulkEntry x + uptoBulkEntries r
def uptoBulkEntry {H : Type} : Lit × DataW H → Nat
  | (.string bytes, d) => bytes.length + uptoBulk d + 1
  | (_, d) => uptoBulk d + 1
 end
def uptoSmall : (H : Type) → List (DataW H) → Bool := fun _ ds => decide (uptoBulkAll ds ≤ 1048576)
def OpenSpec.upto (s : _root_.Go.ChangeSpec) : _root_.Go.OpenSpec := { _root_.Go.OpenSpec.ofChange s with cond := some uptoSmall }

/-- 'laws.FnStackFault', WHERE WHAT IT READS IS OF BULK AT MOST 1048576: true; the input reads as it did. -/
def fnStackFaultUptoRow : OpenClaim := { program := "ytlhekgjckjcbhaa", sum := "680eda0ba88e5488bdec04a6a6876140674bec921e39a72bb50007e9d2f7c07b", func := "loop.example/musicengine/laws.FnStackFault", spec := "fnStackFault", apart := false, narrowed := true }
def FnStackFaultUptoSaid : Prop := fnStackFaultUptoRow.holds Try.pinned (OpenSpec.upto fnStackFaultSpec)

/-- 'laws.FnMoveFault', WHERE WHAT IT READS IS OF BULK AT MOST 1048576: true; the input reads as it did. -/
def fnMoveFaultUptoRow : OpenClaim := { program := "ytlhekgjckjcbhaa", sum := "680eda0ba88e5488bdec04a6a6876140674bec921e39a72bb50007e9d2f7c07b", func := "loop.example/musicengine/laws.FnMoveFault", spec := "fnMoveFault", apart := false, narrowed := true }
def FnMoveFaultUptoSaid : Prop := fnMoveFaultUptoRow.holds Try.pinned (OpenSpec.upto fnMoveFaultSpec)

/-- 'laws.FnBeatAt', WHERE WHAT IT READS IS OF BULK AT MOST 1048576: true; the input reads as it did. -/
def fnBeatAtUptoRow : OpenClaim := { program := "ytlhekgjckjcbhaa", sum := "680eda0ba88e5488bdec04a6a6876140674bec921e39a72bb50007e9d2f7c07b", func := "loop.example/musicengine/laws.FnBeatAt", spec := "fnBeatAt", apart := false, narrowed := true }
def FnBeatAtUptoSaid : Prop := fnBeatAtUptoRow.holds Try.pinned (OpenSpec.upto fnBeatAtSpec)

/-- 'laws.FnSectionValid', WHERE WHAT IT READS IS OF BULK AT MOST 1048576: true; the input reads as it did. -/
def fnSectionValidUptoRow : OpenClaim := { program := "ytlhekgjckjcbhaa", sum := "680eda0ba88e5488bdec04a6a6876140674bec921e39a72bb50007e9d2f7c07b", func := "loop.example/musicengine/laws.FnSectionValid", spec := "fnSectionValid", apart := false, narrowed := true }
def FnSectionValidUptoSaid : Prop := fnSectionValidUptoRow.holds Try.pinned (OpenSpec.upto fnSectionValidSpec)

/-- 'laws.FnExactUnfoldBars', WHERE WHAT IT READS IS OF BULK AT MOST 1048576: true; the input reads as it did. -/
def fnExactUnfoldBarsUptoRow : OpenClaim := { program := "ytlhekgjckjcbhaa", sum := "680eda0ba88e5488bdec04a6a6876140674bec921e39a72bb50007e9d2f7c07b", func := "loop.example/musicengine/laws.FnExactUnfoldBars", spec := "fnExactUnfoldBars", apart := false, narrowed := true }
def FnExactUnfoldBarsUptoSaid : Prop := fnExactUnfoldBarsUptoRow.holds Try.pinned (OpenSpec.upto fnExactUnfoldBarsSpec)

/-- 'laws.FnUnfoldBars', WHERE WHAT IT READS IS OF BULK AT MOST 1048576: true; the input reads as it did. -/
def fnUnfoldBarsUptoRow : OpenClaim := { program := "ytlhekgjckjcbhaa", sum := "680eda0ba88e5488bdec04a6a6876140674bec921e39a72bb50007e9d2f7c07b", func := "loop.example/musicengine/laws.FnUnfoldBars", spec := "fnUnfoldBars", apart := false, narrowed := true }
def FnUnfoldBarsUptoSaid : Prop := fnUnfoldBarsUptoRow.holds Try.pinned (OpenSpec.upto fnUnfoldBarsSpec)

end Rows
end Go.Proofs.Ytlhekgjckjcbhaa
