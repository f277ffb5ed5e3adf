/-
  DERIVED. GIVEN WITH THE SEED: THE CARDS: each row of YtaikcpidijekpaaGreatDoorRows.lean that lists a variable, with what it lists TIED to the program's text (the seventh form; the later family's looks); each row that meets fmt, with fmt's text TOLD by the authors' own Lean function (tested against real Go, not proved from fmt's source: count such statements apart). THE CARD IS WHAT COUNTS. Prove the row's statement (the work); the ties are given (YtaikcpidijekpaaGreatDoorTie.lean); close each card by the builder's one call (the guide's Derived/Test/ToyasCard.lean, 'card_holds'). Laid BY PROGRAM, IN A SANDBOX (cutbox-door.mjs). By AI agents, Wed Nov 11 2026. No macro, syntax, notation, axiom, sorry.
-/
import Derived.Test.YtaikcpidijekpaaGreatDoorRows
import GoSem.ClaimSeven
namespace Go.Proofs.YtaikcpidijekpaaGreatDoor
namespace Rows

/-- THE TIED CARD OF 'laws.FnReadVoice'. -/
def fnReadVoiceCard : Claim7 := { stood := { row := fnReadVoiceRow, standIns := [], harness := (true, "187e8e429c20a5c3e01021421fa90134e171b6e39167e44483d093474f6c7319"), looks := true }, kinds := [], alts := [], laidByText := true, laidKinds := [.data, .data, .data, .data, .sentinel, .sentinel, .pinned], laidTests := true, laidLooks := .later }
def FnReadVoiceCardSaid : Prop := Claim7.holds Tryz.pinned (.plain (OpenSpec.ofChange fnReadVoiceSpec)) fnReadVoiceCard

/-- THE SECOND FORM's CARD OF 'laws.FnReadVoice'. -/
def fnReadVoiceUptoCard : Claim7 := { stood := { row := fnReadVoiceUptoRow, standIns := [], harness := (true, "187e8e429c20a5c3e01021421fa90134e171b6e39167e44483d093474f6c7319"), looks := true }, kinds := [], alts := [], laidByText := true, laidKinds := [.data, .data, .data, .data, .sentinel, .sentinel, .pinned], laidTests := true, laidLooks := .later }
def FnReadVoiceUptoCardSaid : Prop := Claim7.holds Tryz.pinned (.plain (OpenSpec.upto fnReadVoiceSpec)) fnReadVoiceUptoCard
end Rows
end Go.Proofs.YtaikcpidijekpaaGreatDoor
