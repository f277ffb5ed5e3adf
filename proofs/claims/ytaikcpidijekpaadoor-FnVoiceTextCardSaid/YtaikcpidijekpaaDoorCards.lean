/-
  DERIVED. GIVEN WITH THE SEED: THE CARDS: each row of YtaikcpidijekpaaDoorRows.lean that lists a variable, with what it lists TIED to the program's text (the seventh form; the later family's looks); each row that meets fmt, with fmt's text TOLD by the authors' own Lean function (tested against real Go, not proved from fmt's source: count such statements apart). THE CARD IS WHAT COUNTS. Prove the row's statement (the work); the ties are given (YtaikcpidijekpaaDoorTie.lean); close each card by the builder's one call (the guide's Derived/Test/ToyasCard.lean, 'card_holds'). Laid BY PROGRAM, IN A SANDBOX (cutbox-door.mjs). By AI agents, Wed Nov 11 2026. No macro, syntax, notation, axiom, sorry.
-/
import Derived.Test.YtaikcpidijekpaaDoorRows
import GoSem.ClaimSeven
namespace Go.Proofs.YtaikcpidijekpaaDoor
namespace Rows

/-- THE TIED CARD OF 'laws.FnExactNoteText'. -/
def fnExactNoteTextCard : Claim7 := { stood := { row := fnExactNoteTextRow, standIns := [], harness := (true, "b9828fa48d8478e294772f4dabfc638364c0d53cc45f9d8e14864132814761df"), looks := true }, kinds := [], alts := [], laidByText := true, laidKinds := [.data, .data, .data], laidTests := true, laidLooks := .later }
def FnExactNoteTextCardSaid : Prop := Claim7.holds Tryd.pinned (.plain (OpenSpec.ofChange fnExactNoteTextSpec)) fnExactNoteTextCard

/-- THE TIED CARD OF 'laws.FnNoteText'. -/
def fnNoteTextCard : Claim7 := { stood := { row := fnNoteTextRow, standIns := [], harness := (true, "b9828fa48d8478e294772f4dabfc638364c0d53cc45f9d8e14864132814761df"), looks := true }, kinds := [], alts := [], laidByText := true, laidKinds := [.data, .data, .data, .sentinel, .sentinel], laidTests := true, laidLooks := .later }
def FnNoteTextCardSaid : Prop := Claim7.holds Tryd.pinned (.plain (OpenSpec.ofChange fnNoteTextSpec)) fnNoteTextCard

/-- THE TIED CARD OF 'laws.FnExactReadNote'. -/
def fnExactReadNoteCard : Claim7 := { stood := { row := fnExactReadNoteRow, standIns := [], harness := (true, "b9828fa48d8478e294772f4dabfc638364c0d53cc45f9d8e14864132814761df"), looks := true }, kinds := [], alts := [], laidByText := true, laidKinds := [.data, .data, .data, .sentinel, .sentinel], laidTests := true, laidLooks := .later }
def FnExactReadNoteCardSaid : Prop := Claim7.holds Tryd.pinned (.plain (OpenSpec.ofChange fnExactReadNoteSpec)) fnExactReadNoteCard

/-- THE TIED CARD OF 'laws.FnReadNote'. -/
def fnReadNoteCard : Claim7 := { stood := { row := fnReadNoteRow, standIns := [], harness := (true, "b9828fa48d8478e294772f4dabfc638364c0d53cc45f9d8e14864132814761df"), looks := true }, kinds := [], alts := [], laidByText := true, laidKinds := [.data, .data, .data, .sentinel, .sentinel], laidTests := true, laidLooks := .later }
def FnReadNoteCardSaid : Prop := Claim7.holds Tryd.pinned (.plain (OpenSpec.ofChange fnReadNoteSpec)) fnReadNoteCard

/-- THE TIED CARD OF 'laws.FnExactVoiceText'. -/
def fnExactVoiceTextCard : Claim7 := { stood := { row := fnExactVoiceTextRow, standIns := [], harness := (true, "b9828fa48d8478e294772f4dabfc638364c0d53cc45f9d8e14864132814761df"), looks := true }, kinds := [], alts := [], laidByText := true, laidKinds := [.data, .data, .data], laidTests := true, laidLooks := .later }
def FnExactVoiceTextCardSaid : Prop := Claim7.holds Tryd.pinned (.plain (OpenSpec.ofChange fnExactVoiceTextSpec)) fnExactVoiceTextCard

/-- THE TIED CARD OF 'laws.FnVoiceText'. -/
def fnVoiceTextCard : Claim7 := { stood := { row := fnVoiceTextRow, standIns := [], harness := (true, "b9828fa48d8478e294772f4dabfc638364c0d53cc45f9d8e14864132814761df"), looks := true }, kinds := [], alts := [], laidByText := true, laidKinds := [.data, .data, .data, .data, .sentinel, .sentinel, .pinned], laidTests := true, laidLooks := .later }
def FnVoiceTextCardSaid : Prop := Claim7.holds Tryd.pinned (.plain (OpenSpec.ofChange fnVoiceTextSpec)) fnVoiceTextCard

/-- THE TIED CARD OF 'laws.FnExactReadVoice'. -/
def fnExactReadVoiceCard : Claim7 := { stood := { row := fnExactReadVoiceRow, standIns := [], harness := (true, "b9828fa48d8478e294772f4dabfc638364c0d53cc45f9d8e14864132814761df"), looks := true }, kinds := [], alts := [], laidByText := true, laidKinds := [.data, .data, .data, .data, .sentinel, .sentinel, .pinned], laidTests := true, laidLooks := .later }
def FnExactReadVoiceCardSaid : Prop := Claim7.holds Tryd.pinned (.plain (OpenSpec.ofChange fnExactReadVoiceSpec)) fnExactReadVoiceCard

/-- THE SECOND FORM's CARD OF 'laws.FnExactNoteText'. -/
def fnExactNoteTextUptoCard : Claim7 := { stood := { row := fnExactNoteTextUptoRow, standIns := [], harness := (true, "b9828fa48d8478e294772f4dabfc638364c0d53cc45f9d8e14864132814761df"), looks := true }, kinds := [], alts := [], laidByText := true, laidKinds := [.data, .data, .data], laidTests := true, laidLooks := .later }
def FnExactNoteTextUptoCardSaid : Prop := Claim7.holds Tryd.pinned (.plain (OpenSpec.upto fnExactNoteTextSpec)) fnExactNoteTextUptoCard

/-- THE SECOND FORM's CARD OF 'laws.FnNoteText'. -/
def fnNoteTextUptoCard : Claim7 := { stood := { row := fnNoteTextUptoRow, standIns := [], harness := (true, "b9828fa48d8478e294772f4dabfc638364c0d53cc45f9d8e14864132814761df"), looks := true }, kinds := [], alts := [], laidByText := true, laidKinds := [.data, .data, .data, .sentinel, .sentinel], laidTests := true, laidLooks := .later }
def FnNoteTextUptoCardSaid : Prop := Claim7.holds Tryd.pinned (.plain (OpenSpec.upto fnNoteTextSpec)) fnNoteTextUptoCard

/-- THE SECOND FORM's CARD OF 'laws.FnExactReadNote'. -/
def fnExactReadNoteUptoCard : Claim7 := { stood := { row := fnExactReadNoteUptoRow, standIns := [], harness := (true, "b9828fa48d8478e294772f4dabfc638364c0d53cc45f9d8e14864132814761df"), looks := true }, kinds := [], alts := [], laidByText := true, laidKinds := [.data, .data, .data, .sentinel, .sentinel], laidTests := true, laidLooks := .later }
def FnExactReadNoteUptoCardSaid : Prop := Claim7.holds Tryd.pinned (.plain (OpenSpec.upto fnExactReadNoteSpec)) fnExactReadNoteUptoCard

/-- THE SECOND FORM's CARD OF 'laws.FnReadNote'. -/
def fnReadNoteUptoCard : Claim7 := { stood := { row := fnReadNoteUptoRow, standIns := [], harness := (true, "b9828fa48d8478e294772f4dabfc638364c0d53cc45f9d8e14864132814761df"), looks := true }, kinds := [], alts := [], laidByText := true, laidKinds := [.data, .data, .data, .sentinel, .sentinel], laidTests := true, laidLooks := .later }
def FnReadNoteUptoCardSaid : Prop := Claim7.holds Tryd.pinned (.plain (OpenSpec.upto fnReadNoteSpec)) fnReadNoteUptoCard

/-- THE SECOND FORM's CARD OF 'laws.FnExactVoiceText'. -/
def fnExactVoiceTextUptoCard : Claim7 := { stood := { row := fnExactVoiceTextUptoRow, standIns := [], harness := (true, "b9828fa48d8478e294772f4dabfc638364c0d53cc45f9d8e14864132814761df"), looks := true }, kinds := [], alts := [], laidByText := true, laidKinds := [.data, .data, .data], laidTests := true, laidLooks := .later }
def FnExactVoiceTextUptoCardSaid : Prop := Claim7.holds Tryd.pinned (.plain (OpenSpec.upto fnExactVoiceTextSpec)) fnExactVoiceTextUptoCard

/-- THE SECOND FORM's CARD OF 'laws.FnVoiceText'. -/
def fnVoiceTextUptoCard : Claim7 := { stood := { row := fnVoiceTextUptoRow, standIns := [], harness := (true, "b9828fa48d8478e294772f4dabfc638364c0d53cc45f9d8e14864132814761df"), looks := true }, kinds := [], alts := [], laidByText := true, laidKinds := [.data, .data, .data, .data, .sentinel, .sentinel, .pinned], laidTests := true, laidLooks := .later }
def FnVoiceTextUptoCardSaid : Prop := Claim7.holds Tryd.pinned (.plain (OpenSpec.upto fnVoiceTextSpec)) fnVoiceTextUptoCard

/-- THE SECOND FORM's CARD OF 'laws.FnExactReadVoice'. -/
def fnExactReadVoiceUptoCard : Claim7 := { stood := { row := fnExactReadVoiceUptoRow, standIns := [], harness := (true, "b9828fa48d8478e294772f4dabfc638364c0d53cc45f9d8e14864132814761df"), looks := true }, kinds := [], alts := [], laidByText := true, laidKinds := [.data, .data, .data, .data, .sentinel, .sentinel, .pinned], laidTests := true, laidLooks := .later }
def FnExactReadVoiceUptoCardSaid : Prop := Claim7.holds Tryd.pinned (.plain (OpenSpec.upto fnExactReadVoiceSpec)) fnExactReadVoiceUptoCard
end Rows
end Go.Proofs.YtaikcpidijekpaaDoor
