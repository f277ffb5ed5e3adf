/-
  No cell of these rows narrows 'for every input' (looked for: loops, veiled, ifaces, maps, wideKeys, modest, calm, conditions, laid).
  DERIVED. THE GIVEN ROWS OF THIS SEAT. 13 by the template 'for every input the law returns true; each argument reads behind the call as it read before'; 0 by the template 'total and deterministic' (their statements: YtendoahanngacaaTotals.lean).
  GIVEN WITH THE SEED: the statements are not yours to turn. If you find one false, say at which input.
  Laid BY PROGRAM, IN A SANDBOX (cutbox-rows.mjs): the forced cells as the released guide's own fill.sh prints them over the translation 9fabf0f234590937… (all of the seat's roots in one cut). By AI agents, Wed Nov 11 2026. No macro, syntax, notation, axiom, sorry.
-/
import Derived.Test.YtendoahanngacaaChecked
import GoSem.Claim
import GoSem.ClaimJoined
import GoSem.ClaimMapViews
import Derived.JoinedTies
import Derived.KernelRfl
namespace Go.Proofs.Ytendoahanngacaa
/- THE CELL 'sum', in the pinned program and in every row, IS THE sha256 OF THE DUMP (.gsa) THAT YtendoahanngacaaProg.lean LOADS. Nothing in Lean hashes anything: it is a label: what it is worth is what the hold of that sum in a sandbox is worth. -/
noncomputable def Try.pinned : Pinned := { name := "ytendoahanngacaa", sum := "9fabf0f2345909378bf7c6d270f00cfa5078c3eadd53b73cfbdcdc7d8d182483", checked := Try.checked }
namespace Rows
def none {H : Type} : Left H := { results := [], args := [] }

/-- 'laws.FnExactMeterValid': WHATEVER THE INPUT: true; the input reads as it did. -/
def fnExactMeterValidSpec : ChangeSpec := { name := "fnExactMeterValid", fn := fun _ => fun
  | [d] => { results := [.lit (.bool true)], args := [d] }
  | _ => none }
def fnExactMeterValidRow : OpenClaim := { program := "ytendoahanngacaa", sum := "9fabf0f2345909378bf7c6d270f00cfa5078c3eadd53b73cfbdcdc7d8d182483", func := "loop.example/musicengine/laws.FnExactMeterValid", spec := "fnExactMeterValid", apart := false }
def FnExactMeterValidSaid : Prop := fnExactMeterValidRow.holds Try.pinned (OpenSpec.ofChange fnExactMeterValidSpec)

/-- ITS FALSE NEIGHBOUR: 'it returns false'. Refute it at one input. -/
def fnExactMeterValidWrong : ChangeSpec := { name := "fnExactMeterValid", fn := fun _ => fun
  | [d] => { results := [.lit (.bool false)], args := [d] }
  | _ => none }
def FnExactMeterValidWrongFalsely : Prop := fnExactMeterValidRow.holds Try.pinned (OpenSpec.ofChange fnExactMeterValidWrong)

/-- 'laws.FnExactBarTicks': WHATEVER THE INPUT: true; the input reads as it did. -/
def fnExactBarTicksSpec : ChangeSpec := { name := "fnExactBarTicks", fn := fun _ => fun
  | [d] => { results := [.lit (.bool true)], args := [d] }
  | _ => none }
def fnExactBarTicksRow : OpenClaim := { program := "ytendoahanngacaa", sum := "9fabf0f2345909378bf7c6d270f00cfa5078c3eadd53b73cfbdcdc7d8d182483", func := "loop.example/musicengine/laws.FnExactBarTicks", spec := "fnExactBarTicks", apart := false }
def FnExactBarTicksSaid : Prop := fnExactBarTicksRow.holds Try.pinned (OpenSpec.ofChange fnExactBarTicksSpec)

/-- ITS FALSE NEIGHBOUR: 'it returns false'. Refute it at one input. -/
def fnExactBarTicksWrong : ChangeSpec := { name := "fnExactBarTicks", fn := fun _ => fun
  | [d] => { results := [.lit (.bool false)], args := [d] }
  | _ => none }
def FnExactBarTicksWrongFalsely : Prop := fnExactBarTicksRow.holds Try.pinned (OpenSpec.ofChange fnExactBarTicksWrong)

/-- 'laws.FnExactBeatAt': WHATEVER THE INPUT: true; the input reads as it did. -/
def fnExactBeatAtSpec : ChangeSpec := { name := "fnExactBeatAt", fn := fun _ => fun
  | [d1, d2] => { results := [.lit (.bool true)], args := [d1, d2] }
  | _ => none }
def fnExactBeatAtRow : OpenClaim := { program := "ytendoahanngacaa", sum := "9fabf0f2345909378bf7c6d270f00cfa5078c3eadd53b73cfbdcdc7d8d182483", func := "loop.example/musicengine/laws.FnExactBeatAt", spec := "fnExactBeatAt", apart := false }
def FnExactBeatAtSaid : Prop := fnExactBeatAtRow.holds Try.pinned (OpenSpec.ofChange fnExactBeatAtSpec)

/-- ITS FALSE NEIGHBOUR: 'it returns false'. Refute it at one input. -/
def fnExactBeatAtWrong : ChangeSpec := { name := "fnExactBeatAt", fn := fun _ => fun
  | [d1, d2] => { results := [.lit (.bool false)], args := [d1, d2] }
  | _ => none }
def FnExactBeatAtWrongFalsely : Prop := fnExactBeatAtRow.holds Try.pinned (OpenSpec.ofChange fnExactBeatAtWrong)

/-- 'laws.FnMeterValid': WHATEVER THE INPUT: true; the input reads as it did. -/
def fnMeterValidSpec : ChangeSpec := { name := "fnMeterValid", fn := fun _ => fun
  | [d] => { results := [.lit (.bool true)], args := [d] }
  | _ => none }
def fnMeterValidRow : OpenClaim := { program := "ytendoahanngacaa", sum := "9fabf0f2345909378bf7c6d270f00cfa5078c3eadd53b73cfbdcdc7d8d182483", func := "loop.example/musicengine/laws.FnMeterValid", spec := "fnMeterValid", apart := false }
def FnMeterValidSaid : Prop := fnMeterValidRow.holds Try.pinned (OpenSpec.ofChange fnMeterValidSpec)

/-- ITS FALSE NEIGHBOUR: 'it returns false'. Refute it at one input. -/
def fnMeterValidWrong : ChangeSpec := { name := "fnMeterValid", fn := fun _ => fun
  | [d] => { results := [.lit (.bool false)], args := [d] }
  | _ => none }
def FnMeterValidWrongFalsely : Prop := fnMeterValidRow.holds Try.pinned (OpenSpec.ofChange fnMeterValidWrong)

/-- 'laws.FnBeatAt': WHATEVER THE INPUT: true; the input reads as it did. -/
def fnBeatAtSpec : ChangeSpec := { name := "fnBeatAt", fn := fun _ => fun
  | [d] => { results := [.lit (.bool true)], args := [d] }
  | _ => none }
def fnBeatAtRow : OpenClaim := { program := "ytendoahanngacaa", sum := "9fabf0f2345909378bf7c6d270f00cfa5078c3eadd53b73cfbdcdc7d8d182483", func := "loop.example/musicengine/laws.FnBeatAt", spec := "fnBeatAt", apart := false }
def FnBeatAtSaid : Prop := fnBeatAtRow.holds Try.pinned (OpenSpec.ofChange fnBeatAtSpec)

/-- ITS FALSE NEIGHBOUR: 'it returns false'. Refute it at one input. -/
def fnBeatAtWrong : ChangeSpec := { name := "fnBeatAt", fn := fun _ => fun
  | [d] => { results := [.lit (.bool false)], args := [d] }
  | _ => none }
def FnBeatAtWrongFalsely : Prop := fnBeatAtRow.holds Try.pinned (OpenSpec.ofChange fnBeatAtWrong)

/-- 'laws.FnBarTicks': WHATEVER THE INPUT: true; the input reads as it did. -/
def fnBarTicksSpec : ChangeSpec := { name := "fnBarTicks", fn := fun _ => fun
  | [d] => { results := [.lit (.bool true)], args := [d] }
  | _ => none }
def fnBarTicksRow : OpenClaim := { program := "ytendoahanngacaa", sum := "9fabf0f2345909378bf7c6d270f00cfa5078c3eadd53b73cfbdcdc7d8d182483", func := "loop.example/musicengine/laws.FnBarTicks", spec := "fnBarTicks", apart := false }
def FnBarTicksSaid : Prop := fnBarTicksRow.holds Try.pinned (OpenSpec.ofChange fnBarTicksSpec)

/-- ITS FALSE NEIGHBOUR: 'it returns false'. Refute it at one input. -/
def fnBarTicksWrong : ChangeSpec := { name := "fnBarTicks", fn := fun _ => fun
  | [d] => { results := [.lit (.bool false)], args := [d] }
  | _ => none }
def FnBarTicksWrongFalsely : Prop := fnBarTicksRow.holds Try.pinned (OpenSpec.ofChange fnBarTicksWrong)

/-- 'laws.FnExactBarCount': WHATEVER THE INPUT: true; the input reads as it did. -/
def fnExactBarCountSpec : ChangeSpec := { name := "fnExactBarCount", fn := fun _ => fun
  | [d1, d2] => { results := [.lit (.bool true)], args := [d1, d2] }
  | _ => none }
def fnExactBarCountRow : OpenClaim := { program := "ytendoahanngacaa", sum := "9fabf0f2345909378bf7c6d270f00cfa5078c3eadd53b73cfbdcdc7d8d182483", func := "loop.example/musicengine/laws.FnExactBarCount", spec := "fnExactBarCount", apart := false }
def FnExactBarCountSaid : Prop := fnExactBarCountRow.holds Try.pinned (OpenSpec.ofChange fnExactBarCountSpec)

/-- ITS FALSE NEIGHBOUR: 'it returns false'. Refute it at one input. -/
def fnExactBarCountWrong : ChangeSpec := { name := "fnExactBarCount", fn := fun _ => fun
  | [d1, d2] => { results := [.lit (.bool false)], args := [d1, d2] }
  | _ => none }
def FnExactBarCountWrongFalsely : Prop := fnExactBarCountRow.holds Try.pinned (OpenSpec.ofChange fnExactBarCountWrong)

/-- 'laws.FnBarCount': WHATEVER THE INPUT: true; the input reads as it did. -/
def fnBarCountSpec : ChangeSpec := { name := "fnBarCount", fn := fun _ => fun
  | [d] => { results := [.lit (.bool true)], args := [d] }
  | _ => none }
def fnBarCountRow : OpenClaim := { program := "ytendoahanngacaa", sum := "9fabf0f2345909378bf7c6d270f00cfa5078c3eadd53b73cfbdcdc7d8d182483", func := "loop.example/musicengine/laws.FnBarCount", spec := "fnBarCount", apart := false }
def FnBarCountSaid : Prop := fnBarCountRow.holds Try.pinned (OpenSpec.ofChange fnBarCountSpec)

/-- ITS FALSE NEIGHBOUR: 'it returns false'. Refute it at one input. -/
def fnBarCountWrong : ChangeSpec := { name := "fnBarCount", fn := fun _ => fun
  | [d] => { results := [.lit (.bool false)], args := [d] }
  | _ => none }
def FnBarCountWrongFalsely : Prop := fnBarCountRow.holds Try.pinned (OpenSpec.ofChange fnBarCountWrong)

/-- 'laws.FnExactFillBar': WHATEVER THE INPUT: true; the input reads as it did. -/
def fnExactFillBarSpec : ChangeSpec := { name := "fnExactFillBar", fn := fun _ => fun
  | [d1, d2] => { results := [.lit (.bool true)], args := [d1, d2] }
  | _ => none }
def fnExactFillBarRow : OpenClaim := { program := "ytendoahanngacaa", sum := "9fabf0f2345909378bf7c6d270f00cfa5078c3eadd53b73cfbdcdc7d8d182483", func := "loop.example/musicengine/laws.FnExactFillBar", spec := "fnExactFillBar", apart := false }
def FnExactFillBarSaid : Prop := fnExactFillBarRow.holds Try.pinned (OpenSpec.ofChange fnExactFillBarSpec)

/-- ITS FALSE NEIGHBOUR: 'it returns false'. Refute it at one input. -/
def fnExactFillBarWrong : ChangeSpec := { name := "fnExactFillBar", fn := fun _ => fun
  | [d1, d2] => { results := [.lit (.bool false)], args := [d1, d2] }
  | _ => none }
def FnExactFillBarWrongFalsely : Prop := fnExactFillBarRow.holds Try.pinned (OpenSpec.ofChange fnExactFillBarWrong)

/-- 'laws.FnFillBar': WHATEVER THE INPUT: true; the input reads as it did. -/
def fnFillBarSpec : ChangeSpec := { name := "fnFillBar", fn := fun _ => fun
  | [d] => { results := [.lit (.bool true)], args := [d] }
  | _ => none }
def fnFillBarRow : OpenClaim := { program := "ytendoahanngacaa", sum := "9fabf0f2345909378bf7c6d270f00cfa5078c3eadd53b73cfbdcdc7d8d182483", func := "loop.example/musicengine/laws.FnFillBar", spec := "fnFillBar", apart := false }
def FnFillBarSaid : Prop := fnFillBarRow.holds Try.pinned (OpenSpec.ofChange fnFillBarSpec)

/-- ITS FALSE NEIGHBOUR: 'it returns false'. Refute it at one input. -/
def fnFillBarWrong : ChangeSpec := { name := "fnFillBar", fn := fun _ => fun
  | [d] => { results := [.lit (.bool false)], args := [d] }
  | _ => none }
def FnFillBarWrongFalsely : Prop := fnFillBarRow.holds Try.pinned (OpenSpec.ofChange fnFillBarWrong)

/-- 'laws.FnExactSplitBars': WHATEVER THE INPUT: true; the input reads as it did. -/
def fnExactSplitBarsSpec : ChangeSpec := { name := "fnExactSplitBars", fn := fun _ => fun
  | [d1, d2] => { results := [.lit (.bool true)], args := [d1, d2] }
  | _ => none }
def fnExactSplitBarsRow : OpenClaim := { program := "ytendoahanngacaa", sum := "9fabf0f2345909378bf7c6d270f00cfa5078c3eadd53b73cfbdcdc7d8d182483", func := "loop.example/musicengine/laws.FnExactSplitBars", spec := "fnExactSplitBars", apart := false }
def FnExactSplitBarsSaid : Prop := fnExactSplitBarsRow.holds Try.pinned (OpenSpec.ofChange fnExactSplitBarsSpec)

/-- ITS FALSE NEIGHBOUR: 'it returns false'. Refute it at one input. -/
def fnExactSplitBarsWrong : ChangeSpec := { name := "fnExactSplitBars", fn := fun _ => fun
  | [d1, d2] => { results := [.lit (.bool false)], args := [d1, d2] }
  | _ => none }
def FnExactSplitBarsWrongFalsely : Prop := fnExactSplitBarsRow.holds Try.pinned (OpenSpec.ofChange fnExactSplitBarsWrong)

/-- 'laws.FnSplitBars': WHATEVER THE INPUT: true; the input reads as it did. -/
def fnSplitBarsSpec : ChangeSpec := { name := "fnSplitBars", fn := fun _ => fun
  | [d] => { results := [.lit (.bool true)], args := [d] }
  | _ => none }
def fnSplitBarsRow : OpenClaim := { program := "ytendoahanngacaa", sum := "9fabf0f2345909378bf7c6d270f00cfa5078c3eadd53b73cfbdcdc7d8d182483", func := "loop.example/musicengine/laws.FnSplitBars", spec := "fnSplitBars", apart := false }
def FnSplitBarsSaid : Prop := fnSplitBarsRow.holds Try.pinned (OpenSpec.ofChange fnSplitBarsSpec)

/-- ITS FALSE NEIGHBOUR: 'it returns false'. Refute it at one input. -/
def fnSplitBarsWrong : ChangeSpec := { name := "fnSplitBars", fn := fun _ => fun
  | [d] => { results := [.lit (.bool false)], args := [d] }
  | _ => none }
def FnSplitBarsWrongFalsely : Prop := fnSplitBarsRow.holds Try.pinned (OpenSpec.ofChange fnSplitBarsWrong)

/-- 'laws.FnSplitBeats': WHATEVER THE INPUT: true; the input reads as it did. -/
def fnSplitBeatsSpec : ChangeSpec := { name := "fnSplitBeats", fn := fun _ => fun
  | [d] => { results := [.lit (.bool true)], args := [d] }
  | _ => none }
def fnSplitBeatsRow : OpenClaim := { program := "ytendoahanngacaa", sum := "9fabf0f2345909378bf7c6d270f00cfa5078c3eadd53b73cfbdcdc7d8d182483", func := "loop.example/musicengine/laws.FnSplitBeats", spec := "fnSplitBeats", apart := false }
def FnSplitBeatsSaid : Prop := fnSplitBeatsRow.holds Try.pinned (OpenSpec.ofChange fnSplitBeatsSpec)

/-- ITS FALSE NEIGHBOUR: 'it returns false'. Refute it at one input. -/
def fnSplitBeatsWrong : ChangeSpec := { name := "fnSplitBeats", fn := fun _ => fun
  | [d] => { results := [.lit (.bool false)], args := [d] }
  | _ => none }
def FnSplitBeatsWrongFalsely : Prop := fnSplitBeatsRow.holds Try.pinned (OpenSpec.ofChange fnSplitBeatsWrong)

/- THE SECOND FORM. 'bulk': how many values and letters a reading holds, each counted each time it is reached (what is shared counts as often as it is met; a slice's spare places count too). A statement '..UptoSaid' is the law's where the arguments, and the package variables that the reading takes, are together of bulk at most 1048576: NARROWER than '..Said'. Prove '..Said' where nothing that the law and all that it calls make is longer than what came in: it says more and counts as full. Else prove '..UptoSaid'. A law counts once. -/
mutual
def uptoBulk {H : Type} : DataW H → Nat
  | .lit (.string bytes) => bytes.length + 1
  | .lit _ => 1
  | .nil => 1
  | .ptr d => uptoBulk d + 1
  | .slice elems spare => uptoBulkAll elems + uptoBulkAll spare + 1
  | .agg parts => uptoBulkAll parts + 1
  | .iface _ d => uptoBulk d + 1
  | .map entries => uptoBulkEntries entries + 1
  | .held _ => 1
def uptoBulkAll {H : Type} : List (DataW H) → Nat
  | [] => 0
  | d :: r => uptoBulk d + uptoBulkAll r
def uptoBulkEntries {H : Type} : List (Lit × DataW H) → Nat
  | [] => 0
  | x :: r => uptoBulkEntry x + uptoBulkEntries r
def uptoBulkEntry {H : Type} : Lit × DataW H → Nat
  | (.string bytes, d) => bytes.length + uptoBulk d + 1
  | (_, d) => uptoBulk d + 1
 end
def uptoSmall : (H : Type) → List (DataW H) → Bool := fun _ ds => decide (uptoBulkAll ds ≤ 1048576)
def OpenSpec.upto (s : _root_.Go.ChangeSpec) : _root_.Go.OpenSpec := { _root_.Go.OpenSpec.ofChange s with cond := some uptoSmall }

/-- 'laws.FnExactMeterValid', WHERE WHAT IT READS IS OF BULK AT MOST 1048576: true; the input reads as it did. -/
def fnExactMeterValidUptoRow : OpenClaim := { program := "ytendoahanngacaa", sum := "9fabf0f2345909378bf7c6d270f00cfa5078c3eadd53b73cfbdcdc7d8d182483", func := "loop.example/musicengine/laws.FnExactMeterValid", spec := "fnExactMeterValid", apart := false, narrowed := true }
def FnExactMeterValidUptoSaid : Prop := fnExactMeterValidUptoRow.holds Try.pinned (OpenSpec.upto fnExactMeterValidSpec)

/-- 'laws.FnExactBarTicks', WHERE WHAT IT READS IS OF BULK AT MOST 1048576: true; the input reads as it did. -/
def fnExactBarTicksUptoRow : OpenClaim := { program := "ytendoahanngacaa", sum := "9fabf0f2345909378bf7c6d270f00cfa5078c3eadd53b73cfbdcdc7d8d182483", func := "loop.example/musicengine/laws.FnExactBarTicks", spec := "fnExactBarTicks", apart := false, narrowed := true }
def FnExactBarTicksUptoSaid : Prop := fnExactBarTicksUptoRow.holds Try.pinned (OpenSpec.upto fnExactBarTicksSpec)

/-- 'laws.FnExactBeatAt', WHERE WHAT IT READS IS OF BULK AT MOST 1048576: true; the input reads as it did. -/
def fnExactBeatAtUptoRow : OpenClaim := { program := "ytendoahanngacaa", sum := "9fabf0f2345909378bf7c6d270f00cfa5078c3eadd53b73cfbdcdc7d8d182483", func := "loop.example/musicengine/laws.FnExactBeatAt", spec := "fnExactBeatAt", apart := false, narrowed := true }
def FnExactBeatAtUptoSaid : Prop := fnExactBeatAtUptoRow.holds Try.pinned (OpenSpec.upto fnExactBeatAtSpec)

/-- 'laws.FnMeterValid', WHERE WHAT IT READS IS OF BULK AT MOST 1048576: true; the input reads as it did. -/
def fnMeterValidUptoRow : OpenClaim := { program := "ytendoahanngacaa", sum := "9fabf0f2345909378bf7c6d270f00cfa5078c3eadd53b73cfbdcdc7d8d182483", func := "loop.example/musicengine/laws.FnMeterValid", spec := "fnMeterValid", apart := false, narrowed := true }
def FnMeterValidUptoSaid : Prop := fnMeterValidUptoRow.holds Try.pinned (OpenSpec.upto fnMeterValidSpec)

/-- 'laws.FnBeatAt', WHERE WHAT IT READS IS OF BULK AT MOST 1048576: true; the input reads as it did. -/
def fnBeatAtUptoRow : OpenClaim := { program := "ytendoahanngacaa", sum := "9fabf0f2345909378bf7c6d270f00cfa5078c3eadd53b73cfbdcdc7d8d182483", func := "loop.example/musicengine/laws.FnBeatAt", spec := "fnBeatAt", apart := false, narrowed := true }
def FnBeatAtUptoSaid : Prop := fnBeatAtUptoRow.holds Try.pinned (OpenSpec.upto fnBeatAtSpec)

/-- 'laws.FnBarTicks', WHERE WHAT IT READS IS OF BULK AT MOST 1048576: true; the input reads as it did. -/
def fnBarTicksUptoRow : OpenClaim := { program := "ytendoahanngacaa", sum := "9fabf0f2345909378bf7c6d270f00cfa5078c3eadd53b73cfbdcdc7d8d182483", func := "loop.example/musicengine/laws.FnBarTicks", spec := "fnBarTicks", apart := false, narrowed := true }
def FnBarTicksUptoSaid : Prop := fnBarTicksUptoRow.holds Try.pinned (OpenSpec.upto fnBarTicksSpec)

/-- 'laws.FnExactBarCount', WHERE WHAT IT READS IS OF BULK AT MOST 1048576: true; the input reads as it did. -/
def fnExactBarCountUptoRow : OpenClaim := { program := "ytendoahanngacaa", sum := "9fabf0f2345909378bf7c6d270f00cfa5078c3eadd53b73cfbdcdc7d8d182483", func := "loop.example/musicengine/laws.FnExactBarCount", spec := "fnExactBarCount", apart := false, narrowed := true }
def FnExactBarCountUptoSaid : Prop := fnExactBarCountUptoRow.holds Try.pinned (OpenSpec.upto fnExactBarCountSpec)

/-- 'laws.FnBarCount', WHERE WHAT IT READS IS OF BULK AT MOST 1048576: true; the input reads as it did. -/
def fnBarCountUptoRow : OpenClaim := { program := "ytendoahanngacaa", sum := "9fabf0f2345909378bf7c6d270f00cfa5078c3eadd53b73cfbdcdc7d8d182483", func := "loop.example/musicengine/laws.FnBarCount", spec := "fnBarCount", apart := false, narrowed := true }
def FnBarCountUptoSaid : Prop := fnBarCountUptoRow.holds Try.pinned (OpenSpec.upto fnBarCountSpec)

/-- 'laws.FnExactFillBar', WHERE WHAT IT READS IS OF BULK AT MOST 1048576: true; the input reads as it did. -/
def fnExactFillBarUptoRow : OpenClaim := { program := "ytendoahanngacaa", sum := "9fabf0f2345909378bf7c6d270f00cfa5078c3eadd53b73cfbdcdc7d8d182483", func := "loop.example/musicengine/laws.FnExactFillBar", spec := "fnExactFillBar", apart := false, narrowed := true }
def FnExactFillBarUptoSaid : Prop := fnExactFillBarUptoRow.holds Try.pinned (OpenSpec.upto fnExactFillBarSpec)

/-- 'laws.FnFillBar', WHERE WHAT IT READS IS OF BULK AT MOST 1048576: true; the input reads as it did. -/
def fnFillBarUptoRow : OpenClaim := { program := "ytendoahanngacaa", sum := "9fabf0f2345909378bf7c6d270f00cfa5078c3eadd53b73cfbdcdc7d8d182483", func := "loop.example/musicengine/laws.FnFillBar", spec := "fnFillBar", apart := false, narrowed := true }
def FnFillBarUptoSaid : Prop := fnFillBarUptoRow.holds Try.pinned (OpenSpec.upto fnFillBarSpec)

/-- 'laws.FnExactSplitBars', WHERE WHAT IT READS IS OF BULK AT MOST 1048576: true; the input reads as it did. -/
def fnExactSplitBarsUptoRow : OpenClaim := { program := "ytendoahanngacaa", sum := "9fabf0f2345909378bf7c6d270f00cfa5078c3eadd53b73cfbdcdc7d8d182483", func := "loop.example/musicengine/laws.FnExactSplitBars", spec := "fnExactSplitBars", apart := false, narrowed := true }
def FnExactSplitBarsUptoSaid : Prop := fnExactSplitBarsUptoRow.holds Try.pinned (OpenSpec.upto fnExactSplitBarsSpec)

/-- 'laws.FnSplitBars', WHERE WHAT IT READS IS OF BULK AT MOST 1048576: true; the input reads as it did. -/
def fnSplitBarsUptoRow : OpenClaim := { program := "ytendoahanngacaa", sum := "9fabf0f2345909378bf7c6d270f00cfa5078c3eadd53b73cfbdcdc7d8d182483", func := "loop.example/musicengine/laws.FnSplitBars", spec := "fnSplitBars", apart := false, narrowed := true }
def FnSplitBarsUptoSaid : Prop := fnSplitBarsUptoRow.holds Try.pinned (OpenSpec.upto fnSplitBarsSpec)

/-- 'laws.FnSplitBeats', WHERE WHAT IT READS IS OF BULK AT MOST 1048576: true; the input reads as it did. -/
def fnSplitBeatsUptoRow : OpenClaim := { program := "ytendoahanngacaa", sum := "9fabf0f2345909378bf7c6d270f00cfa5078c3eadd53b73cfbdcdc7d8d182483", func := "loop.example/musicengine/laws.FnSplitBeats", spec := "fnSplitBeats", apart := false, narrowed := true }
def FnSplitBeatsUptoSaid : Prop := fnSplitBeatsUptoRow.holds Try.pinned (OpenSpec.upto fnSplitBeatsSpec)

end Rows
end Go.Proofs.Ytendoahanngacaa
