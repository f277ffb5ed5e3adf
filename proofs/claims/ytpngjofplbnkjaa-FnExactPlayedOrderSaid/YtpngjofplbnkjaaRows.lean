/-
  No cell of these rows narrows 'for every input' (looked for: loops, veiled, ifaces, maps, wideKeys, modest, calm, conditions, laid).
  DERIVED. THE GIVEN ROWS OF THIS SEAT. 15 by the template 'for every input the law returns true; each argument reads behind the call as it read before'; 0 by the template 'total and deterministic' (their statements: YtpngjofplbnkjaaTotals.lean).
  GIVEN WITH THE SEED: the statements are not yours to turn. If you find one false, say at which input.
  Laid BY PROGRAM, IN A SANDBOX (cutbox-rows.mjs): the forced cells as the released guide's own fill.sh prints them over the translation c177f6648d34ca05… (all of the seat's roots in one cut). By AI agents, Wed Nov 11 2026. No macro, syntax, notation, axiom, sorry.
-/
import Derived.Test.YtpngjofplbnkjaaChecked
import GoSem.Claim
import GoSem.ClaimJoined
import GoSem.ClaimMapViews
import Derived.JoinedTies
import Derived.KernelRfl
namespace Go.Proofs.Ytpngjofplbnkjaa
/- THE CELL 'sum', in the pinned program and in every row, IS THE sha256 OF THE DUMP (.gsa) THAT YtpngjofplbnkjaaProg.lean LOADS. Nothing in Lean hashes anything: it is a label: what it is worth is what the hold of that sum in a sandbox is worth. -/
noncomputable def Try.pinned : Pinned := { name := "ytpngjofplbnkjaa", sum := "c177f6648d34ca05366334612336b4221cfefdb3417a0d3759eabf5df99027a1", checked := Try.checked }
namespace Rows
def none {H : Type} : Left H := { results := [], args := [] }

/-- 'laws.FnExactProgressionFault': WHATEVER THE INPUT: true; the input reads as it did. -/
def fnExactProgressionFaultSpec : ChangeSpec := { name := "fnExactProgressionFault", fn := fun _ => fun
  | [d] => { results := [.lit (.bool true)], args := [d] }
  | _ => none }
def fnExactProgressionFaultRow : OpenClaim := { program := "ytpngjofplbnkjaa", sum := "c177f6648d34ca05366334612336b4221cfefdb3417a0d3759eabf5df99027a1", func := "loop.example/musicengine/laws.FnExactProgressionFault", spec := "fnExactProgressionFault", apart := false }
def FnExactProgressionFaultSaid : Prop := fnExactProgressionFaultRow.holds Try.pinned (OpenSpec.ofChange fnExactProgressionFaultSpec)

/-- ITS FALSE NEIGHBOUR: 'it returns false'. Refute it at one input. -/
def fnExactProgressionFaultWrong : ChangeSpec := { name := "fnExactProgressionFault", fn := fun _ => fun
  | [d] => { results := [.lit (.bool false)], args := [d] }
  | _ => none }
def FnExactProgressionFaultWrongFalsely : Prop := fnExactProgressionFaultRow.holds Try.pinned (OpenSpec.ofChange fnExactProgressionFaultWrong)

/-- 'laws.FnExactCadenceOf': WHATEVER THE INPUT: true; the input reads as it did. -/
def fnExactCadenceOfSpec : ChangeSpec := { name := "fnExactCadenceOf", fn := fun _ => fun
  | [d] => { results := [.lit (.bool true)], args := [d] }
  | _ => none }
def fnExactCadenceOfRow : OpenClaim := { program := "ytpngjofplbnkjaa", sum := "c177f6648d34ca05366334612336b4221cfefdb3417a0d3759eabf5df99027a1", func := "loop.example/musicengine/laws.FnExactCadenceOf", spec := "fnExactCadenceOf", apart := false }
def FnExactCadenceOfSaid : Prop := fnExactCadenceOfRow.holds Try.pinned (OpenSpec.ofChange fnExactCadenceOfSpec)

/-- ITS FALSE NEIGHBOUR: 'it returns false'. Refute it at one input. -/
def fnExactCadenceOfWrong : ChangeSpec := { name := "fnExactCadenceOf", fn := fun _ => fun
  | [d] => { results := [.lit (.bool false)], args := [d] }
  | _ => none }
def FnExactCadenceOfWrongFalsely : Prop := fnExactCadenceOfRow.holds Try.pinned (OpenSpec.ofChange fnExactCadenceOfWrong)

/-- 'laws.FnProgressionFault': WHATEVER THE INPUT: true; the input reads as it did. -/
def fnProgressionFaultSpec : ChangeSpec := { name := "fnProgressionFault", fn := fun _ => fun
  | [d] => { results := [.lit (.bool true)], args := [d] }
  | _ => none }
def fnProgressionFaultRow : OpenClaim := { program := "ytpngjofplbnkjaa", sum := "c177f6648d34ca05366334612336b4221cfefdb3417a0d3759eabf5df99027a1", func := "loop.example/musicengine/laws.FnProgressionFault", spec := "fnProgressionFault", apart := false }
def FnProgressionFaultSaid : Prop := fnProgressionFaultRow.holds Try.pinned (OpenSpec.ofChange fnProgressionFaultSpec)

/-- ITS FALSE NEIGHBOUR: 'it returns false'. Refute it at one input. -/
def fnProgressionFaultWrong : ChangeSpec := { name := "fnProgressionFault", fn := fun _ => fun
  | [d] => { results := [.lit (.bool false)], args := [d] }
  | _ => none }
def FnProgressionFaultWrongFalsely : Prop := fnProgressionFaultRow.holds Try.pinned (OpenSpec.ofChange fnProgressionFaultWrong)

/-- 'laws.FnCadenceOf': WHATEVER THE INPUT: true; the input reads as it did. -/
def fnCadenceOfSpec : ChangeSpec := { name := "fnCadenceOf", fn := fun _ => fun
  | [d] => { results := [.lit (.bool true)], args := [d] }
  | _ => none }
def fnCadenceOfRow : OpenClaim := { program := "ytpngjofplbnkjaa", sum := "c177f6648d34ca05366334612336b4221cfefdb3417a0d3759eabf5df99027a1", func := "loop.example/musicengine/laws.FnCadenceOf", spec := "fnCadenceOf", apart := false }
def FnCadenceOfSaid : Prop := fnCadenceOfRow.holds Try.pinned (OpenSpec.ofChange fnCadenceOfSpec)

/-- ITS FALSE NEIGHBOUR: 'it returns false'. Refute it at one input. -/
def fnCadenceOfWrong : ChangeSpec := { name := "fnCadenceOf", fn := fun _ => fun
  | [d] => { results := [.lit (.bool false)], args := [d] }
  | _ => none }
def FnCadenceOfWrongFalsely : Prop := fnCadenceOfRow.holds Try.pinned (OpenSpec.ofChange fnCadenceOfWrong)

/-- 'laws.FnExactSectionValid': WHATEVER THE INPUT: true; the input reads as it did. -/
def fnExactSectionValidSpec : ChangeSpec := { name := "fnExactSectionValid", fn := fun _ => fun
  | [d] => { results := [.lit (.bool true)], args := [d] }
  | _ => none }
def fnExactSectionValidRow : OpenClaim := { program := "ytpngjofplbnkjaa", sum := "c177f6648d34ca05366334612336b4221cfefdb3417a0d3759eabf5df99027a1", func := "loop.example/musicengine/laws.FnExactSectionValid", spec := "fnExactSectionValid", apart := false }
def FnExactSectionValidSaid : Prop := fnExactSectionValidRow.holds Try.pinned (OpenSpec.ofChange fnExactSectionValidSpec)

/-- ITS FALSE NEIGHBOUR: 'it returns false'. Refute it at one input. -/
def fnExactSectionValidWrong : ChangeSpec := { name := "fnExactSectionValid", fn := fun _ => fun
  | [d] => { results := [.lit (.bool false)], args := [d] }
  | _ => none }
def FnExactSectionValidWrongFalsely : Prop := fnExactSectionValidRow.holds Try.pinned (OpenSpec.ofChange fnExactSectionValidWrong)

/-- 'laws.FnSectionValid': WHATEVER THE INPUT: true; the input reads as it did. -/
def fnSectionValidSpec : ChangeSpec := { name := "fnSectionValid", fn := fun _ => fun
  | [d] => { results := [.lit (.bool true)], args := [d] }
  | _ => none }
def fnSectionValidRow : OpenClaim := { program := "ytpngjofplbnkjaa", sum := "c177f6648d34ca05366334612336b4221cfefdb3417a0d3759eabf5df99027a1", func := "loop.example/musicengine/laws.FnSectionValid", spec := "fnSectionValid", apart := false }
def FnSectionValidSaid : Prop := fnSectionValidRow.holds Try.pinned (OpenSpec.ofChange fnSectionValidSpec)

/-- ITS FALSE NEIGHBOUR: 'it returns false'. Refute it at one input. -/
def fnSectionValidWrong : ChangeSpec := { name := "fnSectionValid", fn := fun _ => fun
  | [d] => { results := [.lit (.bool false)], args := [d] }
  | _ => none }
def FnSectionValidWrongFalsely : Prop := fnSectionValidRow.holds Try.pinned (OpenSpec.ofChange fnSectionValidWrong)

/-- 'laws.FnSectionsValid': WHATEVER THE INPUT: true; the input reads as it did. -/
def fnSectionsValidSpec : ChangeSpec := { name := "fnSectionsValid", fn := fun _ => fun
  | [d] => { results := [.lit (.bool true)], args := [d] }
  | _ => none }
def fnSectionsValidRow : OpenClaim := { program := "ytpngjofplbnkjaa", sum := "c177f6648d34ca05366334612336b4221cfefdb3417a0d3759eabf5df99027a1", func := "loop.example/musicengine/laws.FnSectionsValid", spec := "fnSectionsValid", apart := false }
def FnSectionsValidSaid : Prop := fnSectionsValidRow.holds Try.pinned (OpenSpec.ofChange fnSectionsValidSpec)

/-- ITS FALSE NEIGHBOUR: 'it returns false'. Refute it at one input. -/
def fnSectionsValidWrong : ChangeSpec := { name := "fnSectionsValid", fn := fun _ => fun
  | [d] => { results := [.lit (.bool false)], args := [d] }
  | _ => none }
def FnSectionsValidWrongFalsely : Prop := fnSectionsValidRow.holds Try.pinned (OpenSpec.ofChange fnSectionsValidWrong)

/-- 'laws.FnExactSectionsValid': WHATEVER THE INPUT: true; the input reads as it did. -/
def fnExactSectionsValidSpec : ChangeSpec := { name := "fnExactSectionsValid", fn := fun _ => fun
  | [d] => { results := [.lit (.bool true)], args := [d] }
  | _ => none }
def fnExactSectionsValidRow : OpenClaim := { program := "ytpngjofplbnkjaa", sum := "c177f6648d34ca05366334612336b4221cfefdb3417a0d3759eabf5df99027a1", func := "loop.example/musicengine/laws.FnExactSectionsValid", spec := "fnExactSectionsValid", apart := false }
def FnExactSectionsValidSaid : Prop := fnExactSectionsValidRow.holds Try.pinned (OpenSpec.ofChange fnExactSectionsValidSpec)

/-- ITS FALSE NEIGHBOUR: 'it returns false'. Refute it at one input. -/
def fnExactSectionsValidWrong : ChangeSpec := { name := "fnExactSectionsValid", fn := fun _ => fun
  | [d] => { results := [.lit (.bool false)], args := [d] }
  | _ => none }
def FnExactSectionsValidWrongFalsely : Prop := fnExactSectionsValidRow.holds Try.pinned (OpenSpec.ofChange fnExactSectionsValidWrong)

/-- 'laws.FnExactWrittenBars': WHATEVER THE INPUT: true; the input reads as it did. -/
def fnExactWrittenBarsSpec : ChangeSpec := { name := "fnExactWrittenBars", fn := fun _ => fun
  | [d] => { results := [.lit (.bool true)], args := [d] }
  | _ => none }
def fnExactWrittenBarsRow : OpenClaim := { program := "ytpngjofplbnkjaa", sum := "c177f6648d34ca05366334612336b4221cfefdb3417a0d3759eabf5df99027a1", func := "loop.example/musicengine/laws.FnExactWrittenBars", spec := "fnExactWrittenBars", apart := false }
def FnExactWrittenBarsSaid : Prop := fnExactWrittenBarsRow.holds Try.pinned (OpenSpec.ofChange fnExactWrittenBarsSpec)

/-- ITS FALSE NEIGHBOUR: 'it returns false'. Refute it at one input. -/
def fnExactWrittenBarsWrong : ChangeSpec := { name := "fnExactWrittenBars", fn := fun _ => fun
  | [d] => { results := [.lit (.bool false)], args := [d] }
  | _ => none }
def FnExactWrittenBarsWrongFalsely : Prop := fnExactWrittenBarsRow.holds Try.pinned (OpenSpec.ofChange fnExactWrittenBarsWrong)

/-- 'laws.FnWrittenBars': WHATEVER THE INPUT: true; the input reads as it did. -/
def fnWrittenBarsSpec : ChangeSpec := { name := "fnWrittenBars", fn := fun _ => fun
  | [d] => { results := [.lit (.bool true)], args := [d] }
  | _ => none }
def fnWrittenBarsRow : OpenClaim := { program := "ytpngjofplbnkjaa", sum := "c177f6648d34ca05366334612336b4221cfefdb3417a0d3759eabf5df99027a1", func := "loop.example/musicengine/laws.FnWrittenBars", spec := "fnWrittenBars", apart := false }
def FnWrittenBarsSaid : Prop := fnWrittenBarsRow.holds Try.pinned (OpenSpec.ofChange fnWrittenBarsSpec)

/-- ITS FALSE NEIGHBOUR: 'it returns false'. Refute it at one input. -/
def fnWrittenBarsWrong : ChangeSpec := { name := "fnWrittenBars", fn := fun _ => fun
  | [d] => { results := [.lit (.bool false)], args := [d] }
  | _ => none }
def FnWrittenBarsWrongFalsely : Prop := fnWrittenBarsRow.holds Try.pinned (OpenSpec.ofChange fnWrittenBarsWrong)

/-- 'laws.FnPlayedOrder': WHATEVER THE INPUT: true; the input reads as it did. -/
def fnPlayedOrderSpec : ChangeSpec := { name := "fnPlayedOrder", fn := fun _ => fun
  | [d] => { results := [.lit (.bool true)], args := [d] }
  | _ => none }
def fnPlayedOrderRow : OpenClaim := { program := "ytpngjofplbnkjaa", sum := "c177f6648d34ca05366334612336b4221cfefdb3417a0d3759eabf5df99027a1", func := "loop.example/musicengine/laws.FnPlayedOrder", spec := "fnPlayedOrder", apart := false }
def FnPlayedOrderSaid : Prop := fnPlayedOrderRow.holds Try.pinned (OpenSpec.ofChange fnPlayedOrderSpec)

/-- ITS FALSE NEIGHBOUR: 'it returns false'. Refute it at one input. -/
def fnPlayedOrderWrong : ChangeSpec := { name := "fnPlayedOrder", fn := fun _ => fun
  | [d] => { results := [.lit (.bool false)], args := [d] }
  | _ => none }
def FnPlayedOrderWrongFalsely : Prop := fnPlayedOrderRow.holds Try.pinned (OpenSpec.ofChange fnPlayedOrderWrong)

/-- 'laws.FnExactPlayedOrder': WHATEVER THE INPUT: true; the input reads as it did. -/
def fnExactPlayedOrderSpec : ChangeSpec := { name := "fnExactPlayedOrder", fn := fun _ => fun
  | [d] => { results := [.lit (.bool true)], args := [d] }
  | _ => none }
def fnExactPlayedOrderRow : OpenClaim := { program := "ytpngjofplbnkjaa", sum := "c177f6648d34ca05366334612336b4221cfefdb3417a0d3759eabf5df99027a1", func := "loop.example/musicengine/laws.FnExactPlayedOrder", spec := "fnExactPlayedOrder", apart := false }
def FnExactPlayedOrderSaid : Prop := fnExactPlayedOrderRow.holds Try.pinned (OpenSpec.ofChange fnExactPlayedOrderSpec)

/-- ITS FALSE NEIGHBOUR: 'it returns false'. Refute it at one input. -/
def fnExactPlayedOrderWrong : ChangeSpec := { name := "fnExactPlayedOrder", fn := fun _ => fun
  | [d] => { results := [.lit (.bool false)], args := [d] }
  | _ => none }
def FnExactPlayedOrderWrongFalsely : Prop := fnExactPlayedOrderRow.holds Try.pinned (OpenSpec.ofChange fnExactPlayedOrderWrong)

/-- 'laws.FnSectionsJoin': WHATEVER THE INPUT: true; the input reads as it did. -/
def fnSectionsJoinSpec : ChangeSpec := { name := "fnSectionsJoin", fn := fun _ => fun
  | [d1, d2] => { results := [.lit (.bool true)], args := [d1, d2] }
  | _ => none }
def fnSectionsJoinRow : OpenClaim := { program := "ytpngjofplbnkjaa", sum := "c177f6648d34ca05366334612336b4221cfefdb3417a0d3759eabf5df99027a1", func := "loop.example/musicengine/laws.FnSectionsJoin", spec := "fnSectionsJoin", apart := false }
def FnSectionsJoinSaid : Prop := fnSectionsJoinRow.holds Try.pinned (OpenSpec.ofChange fnSectionsJoinSpec)

/-- ITS FALSE NEIGHBOUR: 'it returns false'. Refute it at one input. -/
def fnSectionsJoinWrong : ChangeSpec := { name := "fnSectionsJoin", fn := fun _ => fun
  | [d1, d2] => { results := [.lit (.bool false)], args := [d1, d2] }
  | _ => none }
def FnSectionsJoinWrongFalsely : Prop := fnSectionsJoinRow.holds Try.pinned (OpenSpec.ofChange fnSectionsJoinWrong)

/-- 'laws.FnUnfoldBars': WHATEVER THE INPUT: true; the input reads as it did. -/
def fnUnfoldBarsSpec : ChangeSpec := { name := "fnUnfoldBars", fn := fun _ => fun
  | [d] => { results := [.lit (.bool true)], args := [d] }
  | _ => none }
def fnUnfoldBarsRow : OpenClaim := { program := "ytpngjofplbnkjaa", sum := "c177f6648d34ca05366334612336b4221cfefdb3417a0d3759eabf5df99027a1", func := "loop.example/musicengine/laws.FnUnfoldBars", spec := "fnUnfoldBars", apart := false }
def FnUnfoldBarsSaid : Prop := fnUnfoldBarsRow.holds Try.pinned (OpenSpec.ofChange fnUnfoldBarsSpec)

/-- ITS FALSE NEIGHBOUR: 'it returns false'. Refute it at one input. -/
def fnUnfoldBarsWrong : ChangeSpec := { name := "fnUnfoldBars", fn := fun _ => fun
  | [d] => { results := [.lit (.bool false)], args := [d] }
  | _ => none }
def FnUnfoldBarsWrongFalsely : Prop := fnUnfoldBarsRow.holds Try.pinned (OpenSpec.ofChange fnUnfoldBarsWrong)

/-- 'laws.FnExactUnfoldBars': WHATEVER THE INPUT: true; the input reads as it did. -/
def fnExactUnfoldBarsSpec : ChangeSpec := { name := "fnExactUnfoldBars", fn := fun _ => fun
  | [d1, d2] => { results := [.lit (.bool true)], args := [d1, d2] }
  | _ => none }
def fnExactUnfoldBarsRow : OpenClaim := { program := "ytpngjofplbnkjaa", sum := "c177f6648d34ca05366334612336b4221cfefdb3417a0d3759eabf5df99027a1", func := "loop.example/musicengine/laws.FnExactUnfoldBars", spec := "fnExactUnfoldBars", apart := false }
def FnExactUnfoldBarsSaid : Prop := fnExactUnfoldBarsRow.holds Try.pinned (OpenSpec.ofChange fnExactUnfoldBarsSpec)

/-- ITS FALSE NEIGHBOUR: 'it returns false'. Refute it at one input. -/
def fnExactUnfoldBarsWrong : ChangeSpec := { name := "fnExactUnfoldBars", fn := fun _ => fun
  | [d1, d2] => { results := [.lit (.bool false)], args := [d1, d2] }
  | _ => none }
def FnExactUnfoldBarsWrongFalsely : Prop := fnExactUnfoldBarsRow.holds Try.pinned (OpenSpec.ofChange fnExactUnfoldBarsWrong)

/- THE SECOND FORM. 'bulk': how many values and letters a reading holds, each counted each time it is reached (what is shared counts as often as it is met; a slice's spare places count too). A statement '..UptoSaid' is the law's where the arguments, and the package variables that the reading takes, are together of bulk at most 1048576: NARROWER than '..Said'. Prove '..Said' where nothing that the law and all that it calls make is longer than what came in: it says more and counts as full. Else prove '..UptoSaid'. A law counts once. -/
mutual
def uptoBulk {H : Type} : DataW H → Nat
  | .lit (.string bytes) => bytes.length + 1
  | .lit _ => 1
  | .nil => 1
  | .ptr d => uptoBulk d + 1
  | .slice elems spare => uptoBulkAll elems + uptoBulkAll spare + 1
  | .agg parts => uptoBulkAll parts + 1
  | .iface _ d => uptoBulk d + 1
  | .map entries => uptoBulkEntries entries + 1
  | .held _ => 1
def uptoBulkAll {H : Type} : List (DataW H) → Nat
  | [] => 0
  | d :: r => uptoBulk d + uptoBulkAll r
def uptoBulkEntries {H : Type} : List (Lit × DataW H) → Nat
  | [] => 0
  | x :: r => uptoBulkEntry x + uptoBulkEntries r
def uptoBulkEntry {H : Type} : Lit × DataW H → Nat
  | (.string bytes, d) => bytes.length + uptoBulk d + 1
  | (_, d) => uptoBulk d + 1
 end
def uptoSmall : (H : Type) → List (DataW H) → Bool := fun _ ds => decide (uptoBulkAll ds ≤ 1048576)
def OpenSpec.upto (s : _root_.Go.ChangeSpec) : _root_.Go.OpenSpec := { _root_.Go.OpenSpec.ofChange s with cond := some uptoSmall }

/-- 'laws.FnExactProgressionFault', WHERE WHAT IT READS IS OF BULK AT MOST 1048576: true; the input reads as it did. -/
def fnExactProgressionFaultUptoRow : OpenClaim := { program := "ytpngjofplbnkjaa", sum := "c177f6648d34ca05366334612336b4221cfefdb3417a0d3759eabf5df99027a1", func := "loop.example/musicengine/laws.FnExactProgressionFault", spec := "fnExactProgressionFault", apart := false, narrowed := true }
def FnExactProgressionFaultUptoSaid : Prop := fnExactProgressionFaultUptoRow.holds Try.pinned (OpenSpec.upto fnExactProgressionFaultSpec)

/-- 'laws.FnExactCadenceOf', WHERE WHAT IT READS IS OF BULK AT MOST 1048576: true; the input reads as it did. -/
def fnExactCadenceOfUptoRow : OpenClaim := { program := "ytpngjofplbnkjaa", sum := "c177f6648d34ca05366334612336b4221cfefdb3417a0d3759eabf5df99027a1", func := "loop.example/musicengine/laws.FnExactCadenceOf", spec := "fnExactCadenceOf", apart := false, narrowed := true }
def FnExactCadenceOfUptoSaid : Prop := fnExactCadenceOfUptoRow.holds Try.pinned (OpenSpec.upto fnExactCadenceOfSpec)

/-- 'laws.FnProgressionFault', WHERE WHAT IT READS IS OF BULK AT MOST 1048576: true; the input reads as it did. -/
def fnProgressionFaultUptoRow : OpenClaim := { program := "ytpngjofplbnkjaa", sum := "c177f6648d34ca05366334612336b4221cfefdb3417a0d3759eabf5df99027a1", func := "loop.example/musicengine/laws.FnProgressionFault", spec := "fnProgressionFault", apart := false, narrowed := true }
def FnProgressionFaultUptoSaid : Prop := fnProgressionFaultUptoRow.holds Try.pinned (OpenSpec.upto fnProgressionFaultSpec)

/-- 'laws.FnCadenceOf', WHERE WHAT IT READS IS OF BULK AT MOST 1048576: true; the input reads as it did. -/
def fnCadenceOfUptoRow : OpenClaim := { program := "ytpngjofplbnkjaa", sum := "c177f6648d34ca05366334612336b4221cfefdb3417a0d3759eabf5df99027a1", func := "loop.example/musicengine/laws.FnCadenceOf", spec := "fnCadenceOf", apart := false, narrowed := true }
def FnCadenceOfUptoSaid : Prop := fnCadenceOfUptoRow.holds Try.pinned (OpenSpec.upto fnCadenceOfSpec)

/-- 'laws.FnExactSectionValid', WHERE WHAT IT READS IS OF BULK AT MOST 1048576: true; the input reads as it did. -/
def fnExactSectionValidUptoRow : OpenClaim := { program := "ytpngjofplbnkjaa", sum := "c177f6648d34ca05366334612336b4221cfefdb3417a0d3759eabf5df99027a1", func := "loop.example/musicengine/laws.FnExactSectionValid", spec := "fnExactSectionValid", apart := false, narrowed := true }
def FnExactSectionValidUptoSaid : Prop := fnExactSectionValidUptoRow.holds Try.pinned (OpenSpec.upto fnExactSectionValidSpec)

/-- 'laws.FnSectionValid', WHERE WHAT IT READS IS OF BULK AT MOST 1048576: true; the input reads as it did. -/
def fnSectionValidUptoRow : OpenClaim := { program := "ytpngjofplbnkjaa", sum := "c177f6648d34ca05366334612336b4221cfefdb3417a0d3759eabf5df99027a1", func := "loop.example/musicengine/laws.FnSectionValid", spec := "fnSectionValid", apart := false, narrowed := true }
def FnSectionValidUptoSaid : Prop := fnSectionValidUptoRow.holds Try.pinned (OpenSpec.upto fnSectionValidSpec)

/-- 'laws.FnSectionsValid', WHERE WHAT IT READS IS OF BULK AT MOST 1048576: true; the input reads as it did. -/
def fnSectionsValidUptoRow : OpenClaim := { program := "ytpngjofplbnkjaa", sum := "c177f6648d34ca05366334612336b4221cfefdb3417a0d3759eabf5df99027a1", func := "loop.example/musicengine/laws.FnSectionsValid", spec := "fnSectionsValid", apart := false, narrowed := true }
def FnSectionsValidUptoSaid : Prop := fnSectionsValidUptoRow.holds Try.pinned (OpenSpec.upto fnSectionsValidSpec)

/-- 'laws.FnExactSectionsValid', WHERE WHAT IT READS IS OF BULK AT MOST 1048576: true; the input reads as it did. -/
def fnExactSectionsValidUptoRow : OpenClaim := { program := "ytpngjofplbnkjaa", sum := "c177f6648d34ca05366334612336b4221cfefdb3417a0d3759eabf5df99027a1", func := "loop.example/musicengine/laws.FnExactSectionsValid", spec := "fnExactSectionsValid", apart := false, narrowed := true }
def FnExactSectionsValidUptoSaid : Prop := fnExactSectionsValidUptoRow.holds Try.pinned (OpenSpec.upto fnExactSectionsValidSpec)

/-- 'laws.FnExactWrittenBars', WHERE WHAT IT READS IS OF BULK AT MOST 1048576: true; the input reads as it did. -/
def fnExactWrittenBarsUptoRow : OpenClaim := { program := "ytpngjofplbnkjaa", sum := "c177f6648d34ca05366334612336b4221cfefdb3417a0d3759eabf5df99027a1", func := "loop.example/musicengine/laws.FnExactWrittenBars", spec := "fnExactWrittenBars", apart := false, narrowed := true }
def FnExactWrittenBarsUptoSaid : Prop := fnExactWrittenBarsUptoRow.holds Try.pinned (OpenSpec.upto fnExactWrittenBarsSpec)

/-- 'laws.FnWrittenBars', WHERE WHAT IT READS IS OF BULK AT MOST 1048576: true; the input reads as it did. -/
def fnWrittenBarsUptoRow : OpenClaim := { program := "ytpngjofplbnkjaa", sum := "c177f6648d34ca05366334612336b4221cfefdb3417a0d3759eabf5df99027a1", func := "loop.example/musicengine/laws.FnWrittenBars", spec := "fnWrittenBars", apart := false, narrowed := true }
def FnWrittenBarsUptoSaid : Prop := fnWrittenBarsUptoRow.holds Try.pinned (OpenSpec.upto fnWrittenBarsSpec)

/-- 'laws.FnPlayedOrder', WHERE WHAT IT READS IS OF BULK AT MOST 1048576: true; the input reads as it did. -/
def fnPlayedOrderUptoRow : OpenClaim := { program := "ytpngjofplbnkjaa", sum := "c177f6648d34ca05366334612336b4221cfefdb3417a0d3759eabf5df99027a1", func := "loop.example/musicengine/laws.FnPlayedOrder", spec := "fnPlayedOrder", apart := false, narrowed := true }
def FnPlayedOrderUptoSaid : Prop := fnPlayedOrderUptoRow.holds Try.pinned (OpenSpec.upto fnPlayedOrderSpec)

/-- 'laws.FnExactPlayedOrder', WHERE WHAT IT READS IS OF BULK AT MOST 1048576: true; the input reads as it did. -/
def fnExactPlayedOrderUptoRow : OpenClaim := { program := "ytpngjofplbnkjaa", sum := "c177f6648d34ca05366334612336b4221cfefdb3417a0d3759eabf5df99027a1", func := "loop.example/musicengine/laws.FnExactPlayedOrder", spec := "fnExactPlayedOrder", apart := false, narrowed := true }
def FnExactPlayedOrderUptoSaid : Prop := fnExactPlayedOrderUptoRow.holds Try.pinned (OpenSpec.upto fnExactPlayedOrderSpec)

/-- 'laws.FnSectionsJoin', WHERE WHAT IT READS IS OF BULK AT MOST 1048576: true; the input reads as it did. -/
def fnSectionsJoinUptoRow : OpenClaim := { program := "ytpngjofplbnkjaa", sum := "c177f6648d34ca05366334612336b4221cfefdb3417a0d3759eabf5df99027a1", func := "loop.example/musicengine/laws.FnSectionsJoin", spec := "fnSectionsJoin", apart := false, narrowed := true }
def FnSectionsJoinUptoSaid : Prop := fnSectionsJoinUptoRow.holds Try.pinned (OpenSpec.upto fnSectionsJoinSpec)

/-- 'laws.FnUnfoldBars', WHERE WHAT IT READS IS OF BULK AT MOST 1048576: true; the input reads as it did. -/
def fnUnfoldBarsUptoRow : OpenClaim := { program := "ytpngjofplbnkjaa", sum := "c177f6648d34ca05366334612336b4221cfefdb3417a0d3759eabf5df99027a1", func := "loop.example/musicengine/laws.FnUnfoldBars", spec := "fnUnfoldBars", apart := false, narrowed := true }
def FnUnfoldBarsUptoSaid : Prop := fnUnfoldBarsUptoRow.holds Try.pinned (OpenSpec.upto fnUnfoldBarsSpec)

/-- 'laws.FnExactUnfoldBars', WHERE WHAT IT READS IS OF BULK AT MOST 1048576: true; the input reads as it did. -/
def fnExactUnfoldBarsUptoRow : OpenClaim := { program := "ytpngjofplbnkjaa", sum := "c177f6648d34ca05366334612336b4221cfefdb3417a0d3759eabf5df99027a1", func := "loop.example/musicengine/laws.FnExactUnfoldBars", spec := "fnExactUnfoldBars", apart := false, narrowed := true }
def FnExactUnfoldBarsUptoSaid : Prop := fnExactUnfoldBarsUptoRow.holds Try.pinned (OpenSpec.upto fnExactUnfoldBarsSpec)

end Rows
end Go.Proofs.Ytpngjofplbnkjaa
