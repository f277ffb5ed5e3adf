/-
  No cell of these rows narrows 'for every input' (looked for: loops, veiled, ifaces, maps, wideKeys, modest, calm, conditions, laid).
  DERIVED. THE GIVEN ROWS OF THIS SEAT. 10 by the template 'for every input the law returns true; each argument reads behind the call as it read before'; 0 by the template 'total and deterministic' (their statements: YthkaofnciaommaaTotals.lean).
  GIVEN WITH THE SEED: the statements are not yours to turn. If you find one false, say at which input.
  Laid BY PROGRAM, IN A SANDBOX (cutbox-rows.mjs): the forced cells as the released guide's own fill.sh prints them over the translation ae259f8467c64bb5… (all of the seat's roots in one cut). By AI agents, Wed Nov 11 2026. No macro, syntax, notation, axiom, sorry.
-/
import Derived.Test.YthkaofnciaommaaChecked
import GoSem.Claim
import GoSem.ClaimJoined
import GoSem.ClaimMapViews
import Derived.JoinedTies
import Derived.KernelRfl
namespace Go.Proofs.Ythkaofnciaommaa
/- THE CELL 'sum', in the pinned program and in every row, IS THE sha256 OF THE DUMP (.gsa) THAT YthkaofnciaommaaProg.lean LOADS. Nothing in Lean hashes anything: it is a label: what it is worth is what the hold of that sum in a sandbox is worth. -/
noncomputable def Try.pinned : Pinned := { name := "ythkaofnciaommaa", sum := "ae259f8467c64bb5599bc8ccc6315b1d34cf2d9449f9aa1769c815b3fd136bfb", checked := Try.checked }
namespace Rows
def none {H : Type} : Left H := { results := [], args := [] }

/-- 'laws.FnExactInstrumentValid': WHATEVER THE INPUT: true; the input reads as it did. -/
def fnExactInstrumentValidSpec : ChangeSpec := { name := "fnExactInstrumentValid", fn := fun _ => fun
  | [d] => { results := [.lit (.bool true)], args := [d] }
  | _ => none }
def fnExactInstrumentValidRow : OpenClaim := { program := "ythkaofnciaommaa", sum := "ae259f8467c64bb5599bc8ccc6315b1d34cf2d9449f9aa1769c815b3fd136bfb", func := "loop.example/musicengine/laws.FnExactInstrumentValid", spec := "fnExactInstrumentValid", apart := false }
def FnExactInstrumentValidSaid : Prop := fnExactInstrumentValidRow.holds Try.pinned (OpenSpec.ofChange fnExactInstrumentValidSpec)

/-- ITS FALSE NEIGHBOUR: 'it returns false'. Refute it at one input. -/
def fnExactInstrumentValidWrong : ChangeSpec := { name := "fnExactInstrumentValid", fn := fun _ => fun
  | [d] => { results := [.lit (.bool false)], args := [d] }
  | _ => none }
def FnExactInstrumentValidWrongFalsely : Prop := fnExactInstrumentValidRow.holds Try.pinned (OpenSpec.ofChange fnExactInstrumentValidWrong)

/-- 'laws.FnInstrumentValid': WHATEVER THE INPUT: true; the input reads as it did. -/
def fnInstrumentValidSpec : ChangeSpec := { name := "fnInstrumentValid", fn := fun _ => fun
  | [d] => { results := [.lit (.bool true)], args := [d] }
  | _ => none }
def fnInstrumentValidRow : OpenClaim := { program := "ythkaofnciaommaa", sum := "ae259f8467c64bb5599bc8ccc6315b1d34cf2d9449f9aa1769c815b3fd136bfb", func := "loop.example/musicengine/laws.FnInstrumentValid", spec := "fnInstrumentValid", apart := false }
def FnInstrumentValidSaid : Prop := fnInstrumentValidRow.holds Try.pinned (OpenSpec.ofChange fnInstrumentValidSpec)

/-- ITS FALSE NEIGHBOUR: 'it returns false'. Refute it at one input. -/
def fnInstrumentValidWrong : ChangeSpec := { name := "fnInstrumentValid", fn := fun _ => fun
  | [d] => { results := [.lit (.bool false)], args := [d] }
  | _ => none }
def FnInstrumentValidWrongFalsely : Prop := fnInstrumentValidRow.holds Try.pinned (OpenSpec.ofChange fnInstrumentValidWrong)

/-- 'laws.FnExactRangeFault': WHATEVER THE INPUT: true; the input reads as it did. -/
def fnExactRangeFaultSpec : ChangeSpec := { name := "fnExactRangeFault", fn := fun _ => fun
  | [d1, d2] => { results := [.lit (.bool true)], args := [d1, d2] }
  | _ => none }
def fnExactRangeFaultRow : OpenClaim := { program := "ythkaofnciaommaa", sum := "ae259f8467c64bb5599bc8ccc6315b1d34cf2d9449f9aa1769c815b3fd136bfb", func := "loop.example/musicengine/laws.FnExactRangeFault", spec := "fnExactRangeFault", apart := false }
def FnExactRangeFaultSaid : Prop := fnExactRangeFaultRow.holds Try.pinned (OpenSpec.ofChange fnExactRangeFaultSpec)

/-- ITS FALSE NEIGHBOUR: 'it returns false'. Refute it at one input. -/
def fnExactRangeFaultWrong : ChangeSpec := { name := "fnExactRangeFault", fn := fun _ => fun
  | [d1, d2] => { results := [.lit (.bool false)], args := [d1, d2] }
  | _ => none }
def FnExactRangeFaultWrongFalsely : Prop := fnExactRangeFaultRow.holds Try.pinned (OpenSpec.ofChange fnExactRangeFaultWrong)

/-- 'laws.FnRangeFault': WHATEVER THE INPUT: true; the input reads as it did. -/
def fnRangeFaultSpec : ChangeSpec := { name := "fnRangeFault", fn := fun _ => fun
  | [d] => { results := [.lit (.bool true)], args := [d] }
  | _ => none }
def fnRangeFaultRow : OpenClaim := { program := "ythkaofnciaommaa", sum := "ae259f8467c64bb5599bc8ccc6315b1d34cf2d9449f9aa1769c815b3fd136bfb", func := "loop.example/musicengine/laws.FnRangeFault", spec := "fnRangeFault", apart := false }
def FnRangeFaultSaid : Prop := fnRangeFaultRow.holds Try.pinned (OpenSpec.ofChange fnRangeFaultSpec)

/-- ITS FALSE NEIGHBOUR: 'it returns false'. Refute it at one input. -/
def fnRangeFaultWrong : ChangeSpec := { name := "fnRangeFault", fn := fun _ => fun
  | [d] => { results := [.lit (.bool false)], args := [d] }
  | _ => none }
def FnRangeFaultWrongFalsely : Prop := fnRangeFaultRow.holds Try.pinned (OpenSpec.ofChange fnRangeFaultWrong)

/-- 'laws.FnExactWriteFor': WHATEVER THE INPUT: true; the input reads as it did. -/
def fnExactWriteForSpec : ChangeSpec := { name := "fnExactWriteFor", fn := fun _ => fun
  | [d1, d2] => { results := [.lit (.bool true)], args := [d1, d2] }
  | _ => none }
def fnExactWriteForRow : OpenClaim := { program := "ythkaofnciaommaa", sum := "ae259f8467c64bb5599bc8ccc6315b1d34cf2d9449f9aa1769c815b3fd136bfb", func := "loop.example/musicengine/laws.FnExactWriteFor", spec := "fnExactWriteFor", apart := false }
def FnExactWriteForSaid : Prop := fnExactWriteForRow.holds Try.pinned (OpenSpec.ofChange fnExactWriteForSpec)

/-- ITS FALSE NEIGHBOUR: 'it returns false'. Refute it at one input. -/
def fnExactWriteForWrong : ChangeSpec := { name := "fnExactWriteFor", fn := fun _ => fun
  | [d1, d2] => { results := [.lit (.bool false)], args := [d1, d2] }
  | _ => none }
def FnExactWriteForWrongFalsely : Prop := fnExactWriteForRow.holds Try.pinned (OpenSpec.ofChange fnExactWriteForWrong)

/-- 'laws.FnWriteFor': WHATEVER THE INPUT: true; the input reads as it did. -/
def fnWriteForSpec : ChangeSpec := { name := "fnWriteFor", fn := fun _ => fun
  | [d] => { results := [.lit (.bool true)], args := [d] }
  | _ => none }
def fnWriteForRow : OpenClaim := { program := "ythkaofnciaommaa", sum := "ae259f8467c64bb5599bc8ccc6315b1d34cf2d9449f9aa1769c815b3fd136bfb", func := "loop.example/musicengine/laws.FnWriteFor", spec := "fnWriteFor", apart := false }
def FnWriteForSaid : Prop := fnWriteForRow.holds Try.pinned (OpenSpec.ofChange fnWriteForSpec)

/-- ITS FALSE NEIGHBOUR: 'it returns false'. Refute it at one input. -/
def fnWriteForWrong : ChangeSpec := { name := "fnWriteFor", fn := fun _ => fun
  | [d] => { results := [.lit (.bool false)], args := [d] }
  | _ => none }
def FnWriteForWrongFalsely : Prop := fnWriteForRow.holds Try.pinned (OpenSpec.ofChange fnWriteForWrong)

/-- 'laws.FnExactSoundOf': WHATEVER THE INPUT: true; the input reads as it did. -/
def fnExactSoundOfSpec : ChangeSpec := { name := "fnExactSoundOf", fn := fun _ => fun
  | [d1, d2] => { results := [.lit (.bool true)], args := [d1, d2] }
  | _ => none }
def fnExactSoundOfRow : OpenClaim := { program := "ythkaofnciaommaa", sum := "ae259f8467c64bb5599bc8ccc6315b1d34cf2d9449f9aa1769c815b3fd136bfb", func := "loop.example/musicengine/laws.FnExactSoundOf", spec := "fnExactSoundOf", apart := false }
def FnExactSoundOfSaid : Prop := fnExactSoundOfRow.holds Try.pinned (OpenSpec.ofChange fnExactSoundOfSpec)

/-- ITS FALSE NEIGHBOUR: 'it returns false'. Refute it at one input. -/
def fnExactSoundOfWrong : ChangeSpec := { name := "fnExactSoundOf", fn := fun _ => fun
  | [d1, d2] => { results := [.lit (.bool false)], args := [d1, d2] }
  | _ => none }
def FnExactSoundOfWrongFalsely : Prop := fnExactSoundOfRow.holds Try.pinned (OpenSpec.ofChange fnExactSoundOfWrong)

/-- 'laws.FnSoundOf': WHATEVER THE INPUT: true; the input reads as it did. -/
def fnSoundOfSpec : ChangeSpec := { name := "fnSoundOf", fn := fun _ => fun
  | [d] => { results := [.lit (.bool true)], args := [d] }
  | _ => none }
def fnSoundOfRow : OpenClaim := { program := "ythkaofnciaommaa", sum := "ae259f8467c64bb5599bc8ccc6315b1d34cf2d9449f9aa1769c815b3fd136bfb", func := "loop.example/musicengine/laws.FnSoundOf", spec := "fnSoundOf", apart := false }
def FnSoundOfSaid : Prop := fnSoundOfRow.holds Try.pinned (OpenSpec.ofChange fnSoundOfSpec)

/-- ITS FALSE NEIGHBOUR: 'it returns false'. Refute it at one input. -/
def fnSoundOfWrong : ChangeSpec := { name := "fnSoundOf", fn := fun _ => fun
  | [d] => { results := [.lit (.bool false)], args := [d] }
  | _ => none }
def FnSoundOfWrongFalsely : Prop := fnSoundOfRow.holds Try.pinned (OpenSpec.ofChange fnSoundOfWrong)

/-- 'laws.FnShiftTwo': WHATEVER THE INPUT: true; the input reads as it did. -/
def fnShiftTwoSpec : ChangeSpec := { name := "fnShiftTwo", fn := fun _ => fun
  | [d] => { results := [.lit (.bool true)], args := [d] }
  | _ => none }
def fnShiftTwoRow : OpenClaim := { program := "ythkaofnciaommaa", sum := "ae259f8467c64bb5599bc8ccc6315b1d34cf2d9449f9aa1769c815b3fd136bfb", func := "loop.example/musicengine/laws.FnShiftTwo", spec := "fnShiftTwo", apart := false }
def FnShiftTwoSaid : Prop := fnShiftTwoRow.holds Try.pinned (OpenSpec.ofChange fnShiftTwoSpec)

/-- ITS FALSE NEIGHBOUR: 'it returns false'. Refute it at one input. -/
def fnShiftTwoWrong : ChangeSpec := { name := "fnShiftTwo", fn := fun _ => fun
  | [d] => { results := [.lit (.bool false)], args := [d] }
  | _ => none }
def FnShiftTwoWrongFalsely : Prop := fnShiftTwoRow.holds Try.pinned (OpenSpec.ofChange fnShiftTwoWrong)

/-- 'laws.FnShiftVoice': WHATEVER THE INPUT: true; the input reads as it did. -/
def fnShiftVoiceSpec : ChangeSpec := { name := "fnShiftVoice", fn := fun _ => fun
  | [d] => { results := [.lit (.bool true)], args := [d] }
  | _ => none }
def fnShiftVoiceRow : OpenClaim := { program := "ythkaofnciaommaa", sum := "ae259f8467c64bb5599bc8ccc6315b1d34cf2d9449f9aa1769c815b3fd136bfb", func := "loop.example/musicengine/laws.FnShiftVoice", spec := "fnShiftVoice", apart := false }
def FnShiftVoiceSaid : Prop := fnShiftVoiceRow.holds Try.pinned (OpenSpec.ofChange fnShiftVoiceSpec)

/-- ITS FALSE NEIGHBOUR: 'it returns false'. Refute it at one input. -/
def fnShiftVoiceWrong : ChangeSpec := { name := "fnShiftVoice", fn := fun _ => fun
  | [d] => { results := [.lit (.bool false)], args := [d] }
  | _ => none }
def FnShiftVoiceWrongFalsely : Prop := fnShiftVoiceRow.holds Try.pinned (OpenSpec.ofChange fnShiftVoiceWrong)

/- THE SECOND FORM. 'bulk': how many values and letters a reading holds, each counted each time it is reached (what is shared counts as often as it is met; a slice's spare places count too). A statement '..UptoSaid' is the law's where the arguments, and the package variables that the reading takes, are together of bulk at most 1048576: NARROWER than '..Said'. Prove '..Said' where nothing that the law and all that it calls make is longer than what came in: it says more and counts as full. Else prove '..UptoSaid'. A law counts once. -/
mutual
def uptoBulk {H : Type} : DataW H → Nat
  | .lit (.string bytes) => bytes.length + 1
  | .lit _ => 1
  | .nil => 1
  | .ptr d => uptoBulk d + 1
  | .slice elems spare => uptoBulkAll elems + uptoBulkAll spare + 1
  | .agg parts => uptoBulkAll parts + 1
  | .iface _ d => uptoBulk d + 1
  | .map entries => uptoBulkEntries entries + 1
  | .held _ => 1
def uptoBulkAll {H : Type} : List (DataW H) → Nat
  | [] => 0
  | d :: r => uptoBulk d + uptoBulkAll r
def uptoBulkEntries {H : Type} : List (Lit × DataW H) → Nat
  | [] => 0
  | x :: r => uptoBulkEntry x + uptoBulkEntries r
def uptoBulkEntry {H : Type} : Lit × DataW H → Nat
  | (.string bytes, d) => bytes.length + uptoBulk d + 1
  | (_, d) => uptoBulk d + 1
 end
def uptoSmall : (H : Type) → List (DataW H) → Bool := fun _ ds => decide (uptoBulkAll ds ≤ 1048576)
def OpenSpec.upto (s : _root_.Go.ChangeSpec) : _root_.Go.OpenSpec := { _root_.Go.OpenSpec.ofChange s with cond := some uptoSmall }

/-- 'laws.FnExactInstrumentValid', WHERE WHAT IT READS IS OF BULK AT MOST 1048576: true; the input reads as it did. -/
def fnExactInstrumentValidUptoRow : OpenClaim := { program := "ythkaofnciaommaa", sum := "ae259f8467c64bb5599bc8ccc6315b1d34cf2d9449f9aa1769c815b3fd136bfb", func := "loop.example/musicengine/laws.FnExactInstrumentValid", spec := "fnExactInstrumentValid", apart := false, narrowed := true }
def FnExactInstrumentValidUptoSaid : Prop := fnExactInstrumentValidUptoRow.holds Try.pinned (OpenSpec.upto fnExactInstrumentValidSpec)

/-- 'laws.FnInstrumentValid', WHERE WHAT IT READS IS OF BULK AT MOST 1048576: true; the input reads as it did. -/
def fnInstrumentValidUptoRow : OpenClaim := { program := "ythkaofnciaommaa", sum := "ae259f8467c64bb5599bc8ccc6315b1d34cf2d9449f9aa1769c815b3fd136bfb", func := "loop.example/musicengine/laws.FnInstrumentValid", spec := "fnInstrumentValid", apart := false, narrowed := true }
def FnInstrumentValidUptoSaid : Prop := fnInstrumentValidUptoRow.holds Try.pinned (OpenSpec.upto fnInstrumentValidSpec)

/-- 'laws.FnExactRangeFault', WHERE WHAT IT READS IS OF BULK AT MOST 1048576: true; the input reads as it did. -/
def fnExactRangeFaultUptoRow : OpenClaim := { program := "ythkaofnciaommaa", sum := "ae259f8467c64bb5599bc8ccc6315b1d34cf2d9449f9aa1769c815b3fd136bfb", func := "loop.example/musicengine/laws.FnExactRangeFault", spec := "fnExactRangeFault", apart := false, narrowed := true }
def FnExactRangeFaultUptoSaid : Prop := fnExactRangeFaultUptoRow.holds Try.pinned (OpenSpec.upto fnExactRangeFaultSpec)

/-- 'laws.FnRangeFault', WHERE WHAT IT READS IS OF BULK AT MOST 1048576: true; the input reads as it did. -/
def fnRangeFaultUptoRow : OpenClaim := { program := "ythkaofnciaommaa", sum := "ae259f8467c64bb5599bc8ccc6315b1d34cf2d9449f9aa1769c815b3fd136bfb", func := "loop.example/musicengine/laws.FnRangeFault", spec := "fnRangeFault", apart := false, narrowed := true }
def FnRangeFaultUptoSaid : Prop := fnRangeFaultUptoRow.holds Try.pinned (OpenSpec.upto fnRangeFaultSpec)

/-- 'laws.FnExactWriteFor', WHERE WHAT IT READS IS OF BULK AT MOST 1048576: true; the input reads as it did. -/
def fnExactWriteForUptoRow : OpenClaim := { program := "ythkaofnciaommaa", sum := "ae259f8467c64bb5599bc8ccc6315b1d34cf2d9449f9aa1769c815b3fd136bfb", func := "loop.example/musicengine/laws.FnExactWriteFor", spec := "fnExactWriteFor", apart := false, narrowed := true }
def FnExactWriteForUptoSaid : Prop := fnExactWriteForUptoRow.holds Try.pinned (OpenSpec.upto fnExactWriteForSpec)

/-- 'laws.FnWriteFor', WHERE WHAT IT READS IS OF BULK AT MOST 1048576: true; the input reads as it did. -/
def fnWriteForUptoRow : OpenClaim := { program := "ythkaofnciaommaa", sum := "ae259f8467c64bb5599bc8ccc6315b1d34cf2d9449f9aa1769c815b3fd136bfb", func := "loop.example/musicengine/laws.FnWriteFor", spec := "fnWriteFor", apart := false, narrowed := true }
def FnWriteForUptoSaid : Prop := fnWriteForUptoRow.holds Try.pinned (OpenSpec.upto fnWriteForSpec)

/-- 'laws.FnExactSoundOf', WHERE WHAT IT READS IS OF BULK AT MOST 1048576: true; the input reads as it did. -/
def fnExactSoundOfUptoRow : OpenClaim := { program := "ythkaofnciaommaa", sum := "ae259f8467c64bb5599bc8ccc6315b1d34cf2d9449f9aa1769c815b3fd136bfb", func := "loop.example/musicengine/laws.FnExactSoundOf", spec := "fnExactSoundOf", apart := false, narrowed := true }
def FnExactSoundOfUptoSaid : Prop := fnExactSoundOfUptoRow.holds Try.pinned (OpenSpec.upto fnExactSoundOfSpec)

/-- 'laws.FnSoundOf', WHERE WHAT IT READS IS OF BULK AT MOST 1048576: true; the input reads as it did. -/
def fnSoundOfUptoRow : OpenClaim := { program := "ythkaofnciaommaa", sum := "ae259f8467c64bb5599bc8ccc6315b1d34cf2d9449f9aa1769c815b3fd136bfb", func := "loop.example/musicengine/laws.FnSoundOf", spec := "fnSoundOf", apart := false, narrowed := true }
def FnSoundOfUptoSaid : Prop := fnSoundOfUptoRow.holds Try.pinned (OpenSpec.upto fnSoundOfSpec)

/-- 'laws.FnShiftTwo', WHERE WHAT IT READS IS OF BULK AT MOST 1048576: true; the input reads as it did. -/
def fnShiftTwoUptoRow : OpenClaim := { program := "ythkaofnciaommaa", sum := "ae259f8467c64bb5599bc8ccc6315b1d34cf2d9449f9aa1769c815b3fd136bfb", func := "loop.example/musicengine/laws.FnShiftTwo", spec := "fnShiftTwo", apart := false, narrowed := true }
def FnShiftTwoUptoSaid : Prop := fnShiftTwoUptoRow.holds Try.pinned (OpenSpec.upto fnShiftTwoSpec)

/-- 'laws.FnShiftVoice', WHERE WHAT IT READS IS OF BULK AT MOST 1048576: true; the input reads as it did. -/
def fnShiftVoiceUptoRow : OpenClaim := { program := "ythkaofnciaommaa", sum := "ae259f8467c64bb5599bc8ccc6315b1d34cf2d9449f9aa1769c815b3fd136bfb", func := "loop.example/musicengine/laws.FnShiftVoice", spec := "fnShiftVoice", apart := false, narrowed := true }
def FnShiftVoiceUptoSaid : Prop := fnShiftVoiceUptoRow.holds Try.pinned (OpenSpec.upto fnShiftVoiceSpec)

end Rows
end Go.Proofs.Ythkaofnciaommaa
