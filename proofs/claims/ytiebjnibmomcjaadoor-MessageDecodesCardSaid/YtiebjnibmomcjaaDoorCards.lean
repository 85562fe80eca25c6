/-
  DERIVED. GIVEN WITH THE SEED: THE CARDS: each row of YtiebjnibmomcjaaDoorRows.lean that lists a variable, with what it lists TIED to the program's text (the seventh form; the later family's looks); each row that meets fmt, with fmt's text TOLD by the authors' own Lean function (tested against real Go, not proved from fmt's source: count such statements apart). THE CARD IS WHAT COUNTS. Prove the row's statement (the work); the ties are given (YtiebjnibmomcjaaDoorTie.lean); close each card by the builder's one call (the guide's Derived/Test/ToyasCard.lean, 'card_holds'). Laid BY PROGRAM, IN A SANDBOX (cutbox-door.mjs). By AI agents, Wed Nov 11 2026. No macro, syntax, notation, axiom, sorry.
-/
import Derived.Test.YtiebjnibmomcjaaDoorRows
import GoSem.ClaimSeven
namespace Go.Proofs.YtiebjnibmomcjaaDoor
namespace Rows

/-- THE TIED CARD OF 'linesidelaw06.MessageEncodes'. -/
def messageEncodesCard : Claim7 := { stood := { row := messageEncodesRow, standIns := [], harness := (true, "8d7804582d8b5d6584cc68a59fbc997eda5964244dbc0b5575949d40af361d4f"), looks := true }, kinds := [], alts := [], laidByText := true, laidKinds := [.data], laidTests := true, laidLooks := .later }
def MessageEncodesCardSaid : Prop := Claim7.holds Tryd.pinned (.plain (OpenSpec.ofChange messageEncodesSpec)) messageEncodesCard

/-- THE TIED CARD OF 'linesidelaw06.MessageDecodes'. -/
def messageDecodesCard : Claim7 := { stood := { row := messageDecodesRow, standIns := [], harness := (true, "8d7804582d8b5d6584cc68a59fbc997eda5964244dbc0b5575949d40af361d4f"), looks := true }, kinds := [], alts := [], laidByText := true, laidKinds := [.data], laidTests := true, laidLooks := .later }
def MessageDecodesCardSaid : Prop := Claim7.holds Tryd.pinned (.plain (OpenSpec.ofChange messageDecodesSpec)) messageDecodesCard

/-- THE TIED CARD OF 'linesidelaw06.MessageBack'. -/
def messageBackCard : Claim7 := { stood := { row := messageBackRow, standIns := [], harness := (true, "8d7804582d8b5d6584cc68a59fbc997eda5964244dbc0b5575949d40af361d4f"), looks := true }, kinds := [], alts := [], laidByText := true, laidKinds := [.data], laidTests := true, laidLooks := .later }
def MessageBackCardSaid : Prop := Claim7.holds Tryd.pinned (.plain (OpenSpec.ofChange messageBackSpec)) messageBackCard

/-- THE TIED CARD OF 'linesidelaw06.MessageOnly'. -/
def messageOnlyCard : Claim7 := { stood := { row := messageOnlyRow, standIns := [], harness := (true, "8d7804582d8b5d6584cc68a59fbc997eda5964244dbc0b5575949d40af361d4f"), looks := true }, kinds := [], alts := [], laidByText := true, laidKinds := [.data], laidTests := true, laidLooks := .later }
def MessageOnlyCardSaid : Prop := Claim7.holds Tryd.pinned (.plain (OpenSpec.ofChange messageOnlySpec)) messageOnlyCard

/-- THE TIED CARD OF 'linesidelaw06.MessageCut'. -/
def messageCutCard : Claim7 := { stood := { row := messageCutRow, standIns := [], harness := (true, "8d7804582d8b5d6584cc68a59fbc997eda5964244dbc0b5575949d40af361d4f"), looks := true }, kinds := [], alts := [], laidByText := true, laidKinds := [.data], laidTests := true, laidLooks := .later }
def MessageCutCardSaid : Prop := Claim7.holds Tryd.pinned (.plain (OpenSpec.ofChange messageCutSpec)) messageCutCard

/-- THE TIED CARD OF 'linesidelaw06.MessagePackets'. -/
def messagePacketsCard : Claim7 := { stood := { row := messagePacketsRow, standIns := [], harness := (true, "8d7804582d8b5d6584cc68a59fbc997eda5964244dbc0b5575949d40af361d4f"), looks := true }, kinds := [], alts := [], laidByText := true, laidKinds := [.data], laidTests := true, laidLooks := .later }
def MessagePacketsCardSaid : Prop := Claim7.holds Tryd.pinned (.plain (OpenSpec.ofChange messagePacketsSpec)) messagePacketsCard

/-- THE TIED CARD OF 'linesidelaw06.MessageSides'. -/
def messageSidesCard : Claim7 := { stood := { row := messageSidesRow, standIns := [], harness := (true, "8d7804582d8b5d6584cc68a59fbc997eda5964244dbc0b5575949d40af361d4f"), looks := true }, kinds := [], alts := [], laidByText := true, laidKinds := [.data], laidTests := true, laidLooks := .later }
def MessageSidesCardSaid : Prop := Claim7.holds Tryd.pinned (.plain (OpenSpec.ofChange messageSidesSpec)) messageSidesCard

/-- THE SECOND FORM's CARD OF 'linesidelaw06.MessageEncodes'. -/
def messageEncodesUptoCard : Claim7 := { stood := { row := messageEncodesUptoRow, standIns := [], harness := (true, "8d7804582d8b5d6584cc68a59fbc997eda5964244dbc0b5575949d40af361d4f"), looks := true }, kinds := [], alts := [], laidByText := true, laidKinds := [.data], laidTests := true, laidLooks := .later }
def MessageEncodesUptoCardSaid : Prop := Claim7.holds Tryd.pinned (.plain (OpenSpec.upto messageEncodesSpec)) messageEncodesUptoCard

/-- THE SECOND FORM's CARD OF 'linesidelaw06.MessageDecodes'. -/
def messageDecodesUptoCard : Claim7 := { stood := { row := messageDecodesUptoRow, standIns := [], harness := (true, "8d7804582d8b5d6584cc68a59fbc997eda5964244dbc0b5575949d40af361d4f"), looks := true }, kinds := [], alts := [], laidByText := true, laidKinds := [.data], laidTests := true, laidLooks := .later }
def MessageDecodesUptoCardSaid : Prop := Claim7.holds Tryd.pinned (.plain (OpenSpec.upto messageDecodesSpec)) messageDecodesUptoCard

/-- THE SECOND FORM's CARD OF 'linesidelaw06.MessageBack'. -/
def messageBackUptoCard : Claim7 := { stood := { row := messageBackUptoRow, standIns := [], harness := (true, "8d7804582d8b5d6584cc68a59fbc997eda5964244dbc0b5575949d40af361d4f"), looks := true }, kinds := [], alts := [], laidByText := true, laidKinds := [.data], laidTests := true, laidLooks := .later }
def MessageBackUptoCardSaid : Prop := Claim7.holds Tryd.pinned (.plain (OpenSpec.upto messageBackSpec)) messageBackUptoCard

/-- THE SECOND FORM's CARD OF 'linesidelaw06.MessageOnly'. -/
def messageOnlyUptoCard : Claim7 := { stood := { row := messageOnlyUptoRow, standIns := [], harness := (true, "8d7804582d8b5d6584cc68a59fbc997eda5964244dbc0b5575949d40af361d4f"), looks := true }, kinds := [], alts := [], laidByText := true, laidKinds := [.data], laidTests := true, laidLooks := .later }
def MessageOnlyUptoCardSaid : Prop := Claim7.holds Tryd.pinned (.plain (OpenSpec.upto messageOnlySpec)) messageOnlyUptoCard

/-- THE SECOND FORM's CARD OF 'linesidelaw06.MessageCut'. -/
def messageCutUptoCard : Claim7 := { stood := { row := messageCutUptoRow, standIns := [], harness := (true, "8d7804582d8b5d6584cc68a59fbc997eda5964244dbc0b5575949d40af361d4f"), looks := true }, kinds := [], alts := [], laidByText := true, laidKinds := [.data], laidTests := true, laidLooks := .later }
def MessageCutUptoCardSaid : Prop := Claim7.holds Tryd.pinned (.plain (OpenSpec.upto messageCutSpec)) messageCutUptoCard

/-- THE SECOND FORM's CARD OF 'linesidelaw06.MessagePackets'. -/
def messagePacketsUptoCard : Claim7 := { stood := { row := messagePacketsUptoRow, standIns := [], harness := (true, "8d7804582d8b5d6584cc68a59fbc997eda5964244dbc0b5575949d40af361d4f"), looks := true }, kinds := [], alts := [], laidByText := true, laidKinds := [.data], laidTests := true, laidLooks := .later }
def MessagePacketsUptoCardSaid : Prop := Claim7.holds Tryd.pinned (.plain (OpenSpec.upto messagePacketsSpec)) messagePacketsUptoCard

/-- THE SECOND FORM's CARD OF 'linesidelaw06.MessageSides'. -/
def messageSidesUptoCard : Claim7 := { stood := { row := messageSidesUptoRow, standIns := [], harness := (true, "8d7804582d8b5d6584cc68a59fbc997eda5964244dbc0b5575949d40af361d4f"), looks := true }, kinds := [], alts := [], laidByText := true, laidKinds := [.data], laidTests := true, laidLooks := .later }
def MessageSidesUptoCardSaid : Prop := Claim7.holds Tryd.pinned (.plain (OpenSpec.upto messageSidesSpec)) messageSidesUptoCard
end Rows
end Go.Proofs.YtiebjnibmomcjaaDoor
