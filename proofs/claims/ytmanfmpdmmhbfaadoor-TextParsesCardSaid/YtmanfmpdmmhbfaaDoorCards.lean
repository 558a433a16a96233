/-
  DERIVED. GIVEN WITH THE SEED: THE CARDS: each row of YtmanfmpdmmhbfaaDoorRows.lean that lists a variable, with what it lists TIED to the program's text (the seventh form; the later family's looks); each row that meets fmt, with fmt's text TOLD by the authors' own Lean function (tested against real Go, not proved from fmt's source: count such statements apart). THE CARD IS WHAT COUNTS. Prove the row's statement (the work); the ties are given (YtmanfmpdmmhbfaaDoorTie.lean); close each card by the builder's one call (the guide's Derived/Test/ToyasCard.lean, 'card_holds'). Laid BY PROGRAM, IN A SANDBOX (cutbox-door.mjs). By AI agents, Wed Nov 11 2026. No macro, syntax, notation, axiom, sorry.
-/
import Derived.Test.YtmanfmpdmmhbfaaDoorRows
import GoSem.ClaimSeven
namespace Go.Proofs.YtmanfmpdmmhbfaaDoor
namespace Rows

/-- THE TIED CARD OF 'chandlerylaw25.TextParses'. -/
def textParsesCard : Claim7 := { stood := { row := textParsesRow, standIns := [], harness := (true, "0ae572092518792ba085d3ef2f98f1cde7d8f291b8eaa938065a92467f47acd9"), looks := true }, kinds := [], alts := [], laidByText := true, laidKinds := [.data, .data, .data, .data, .sentinel, .sentinel, .pinned], laidTests := true, laidLooks := .later }
def TextParsesCardSaid : Prop := Claim7.holds Tryd.pinned (.plain (OpenSpec.ofChange textParsesSpec)) textParsesCard

/-- THE TIED CARD OF 'chandlerylaw25.TextBack'. -/
def textBackCard : Claim7 := { stood := { row := textBackRow, standIns := [], harness := (true, "0ae572092518792ba085d3ef2f98f1cde7d8f291b8eaa938065a92467f47acd9"), looks := true }, kinds := [], alts := [], laidByText := true, laidKinds := [.data, .data, .data, .data, .sentinel, .sentinel, .pinned], laidTests := true, laidLooks := .later }
def TextBackCardSaid : Prop := Claim7.holds Tryd.pinned (.plain (OpenSpec.ofChange textBackSpec)) textBackCard

/-- THE TIED CARD OF 'chandlerylaw25.TextSame'. -/
def textSameCard : Claim7 := { stood := { row := textSameRow, standIns := [], harness := (true, "0ae572092518792ba085d3ef2f98f1cde7d8f291b8eaa938065a92467f47acd9"), looks := true }, kinds := [], alts := [], laidByText := true, laidKinds := [.data, .data, .data, .data, .sentinel, .sentinel, .pinned], laidTests := true, laidLooks := .later }
def TextSameCardSaid : Prop := Claim7.holds Tryd.pinned (.plain (OpenSpec.ofChange textSameSpec)) textSameCard

/-- THE TIED CARD OF 'chandlerylaw25.TextBlanks'. -/
def textBlanksCard : Claim7 := { stood := { row := textBlanksRow, standIns := [], harness := (true, "0ae572092518792ba085d3ef2f98f1cde7d8f291b8eaa938065a92467f47acd9"), looks := true }, kinds := [], alts := [], laidByText := true, laidKinds := [.data, .data, .data, .data, .sentinel, .sentinel, .pinned], laidTests := true, laidLooks := .later }
def TextBlanksCardSaid : Prop := Claim7.holds Tryd.pinned (.plain (OpenSpec.ofChange textBlanksSpec)) textBlanksCard

/-- THE TIED CARD OF 'chandlerylaw25.TextEnds'. -/
def textEndsCard : Claim7 := { stood := { row := textEndsRow, standIns := [], harness := (true, "0ae572092518792ba085d3ef2f98f1cde7d8f291b8eaa938065a92467f47acd9"), looks := true }, kinds := [], alts := [], laidByText := true, laidKinds := [.data, .data, .data, .data, .sentinel, .sentinel, .pinned], laidTests := true, laidLooks := .later }
def TextEndsCardSaid : Prop := Claim7.holds Tryd.pinned (.plain (OpenSpec.ofChange textEndsSpec)) textEndsCard

/-- THE SECOND FORM's CARD OF 'chandlerylaw25.TextParses'. -/
def textParsesUptoCard : Claim7 := { stood := { row := textParsesUptoRow, standIns := [], harness := (true, "0ae572092518792ba085d3ef2f98f1cde7d8f291b8eaa938065a92467f47acd9"), looks := true }, kinds := [], alts := [], laidByText := true, laidKinds := [.data, .data, .data, .data, .sentinel, .sentinel, .pinned], laidTests := true, laidLooks := .later }
def TextParsesUptoCardSaid : Prop := Claim7.holds Tryd.pinned (.plain (OpenSpec.upto textParsesSpec)) textParsesUptoCard

/-- THE SECOND FORM's CARD OF 'chandlerylaw25.TextBack'. -/
def textBackUptoCard : Claim7 := { stood := { row := textBackUptoRow, standIns := [], harness := (true, "0ae572092518792ba085d3ef2f98f1cde7d8f291b8eaa938065a92467f47acd9"), looks := true }, kinds := [], alts := [], laidByText := true, laidKinds := [.data, .data, .data, .data, .sentinel, .sentinel, .pinned], laidTests := true, laidLooks := .later }
def TextBackUptoCardSaid : Prop := Claim7.holds Tryd.pinned (.plain (OpenSpec.upto textBackSpec)) textBackUptoCard

/-- THE SECOND FORM's CARD OF 'chandlerylaw25.TextSame'. -/
def textSameUptoCard : Claim7 := { stood := { row := textSameUptoRow, standIns := [], harness := (true, "0ae572092518792ba085d3ef2f98f1cde7d8f291b8eaa938065a92467f47acd9"), looks := true }, kinds := [], alts := [], laidByText := true, laidKinds := [.data, .data, .data, .data, .sentinel, .sentinel, .pinned], laidTests := true, laidLooks := .later }
def TextSameUptoCardSaid : Prop := Claim7.holds Tryd.pinned (.plain (OpenSpec.upto textSameSpec)) textSameUptoCard

/-- THE SECOND FORM's CARD OF 'chandlerylaw25.TextBlanks'. -/
def textBlanksUptoCard : Claim7 := { stood := { row := textBlanksUptoRow, standIns := [], harness := (true, "0ae572092518792ba085d3ef2f98f1cde7d8f291b8eaa938065a92467f47acd9"), looks := true }, kinds := [], alts := [], laidByText := true, laidKinds := [.data, .data, .data, .data, .sentinel, .sentinel, .pinned], laidTests := true, laidLooks := .later }
def TextBlanksUptoCardSaid : Prop := Claim7.holds Tryd.pinned (.plain (OpenSpec.upto textBlanksSpec)) textBlanksUptoCard

/-- THE SECOND FORM's CARD OF 'chandlerylaw25.TextEnds'. -/
def textEndsUptoCard : Claim7 := { stood := { row := textEndsUptoRow, standIns := [], harness := (true, "0ae572092518792ba085d3ef2f98f1cde7d8f291b8eaa938065a92467f47acd9"), looks := true }, kinds := [], alts := [], laidByText := true, laidKinds := [.data, .data, .data, .data, .sentinel, .sentinel, .pinned], laidTests := true, laidLooks := .later }
def TextEndsUptoCardSaid : Prop := Claim7.holds Tryd.pinned (.plain (OpenSpec.upto textEndsSpec)) textEndsUptoCard
end Rows
end Go.Proofs.YtmanfmpdmmhbfaaDoor
