/-
  DERIVED. GIVEN WITH THE SEED: THE CARDS: each row of YtddmfjcimanilaaDoorRows.lean that lists a variable, with what it lists TIED to the program's text (the seventh form; the later family's looks); each row that meets fmt, with fmt's text TOLD by the authors' own Lean function (tested against real Go, not proved from fmt's source: count such statements apart). THE CARD IS WHAT COUNTS. Prove the row's statement (the work); the ties are given (YtddmfjcimanilaaDoorTie.lean); close each card by the builder's one call (the guide's Derived/Test/ToyasCard.lean, 'card_holds'). Laid BY PROGRAM, IN A SANDBOX (cutbox-door.mjs). By AI agents, Wed Nov 11 2026. No macro, syntax, notation, axiom, sorry.
-/
import Derived.Test.YtddmfjcimanilaaDoorRows
import GoSem.ClaimSeven
namespace Go.Proofs.YtddmfjcimanilaaDoor
namespace Rows

/-- THE TIED CARD OF 'linesidelaw02.VarsRows'. -/
def varsRowsCard : Claim7 := { stood := { row := varsRowsRow, standIns := [], harness := (true, "639841fa2caed1936f880bf31f452d7ec1ad938b6e261e757fae51ab4bca86bc"), looks := false }, kinds := [], alts := [], laidByText := true, laidKinds := [.data], laidTests := true, laidLooks := .later }
def VarsRowsCardSaid : Prop := Claim7.holds Tryd.pinned (.plain (OpenSpec.ofChange varsRowsSpec)) varsRowsCard

/-- THE TIED CARD OF 'linesidelaw02.VarsMay'. -/
def varsMayCard : Claim7 := { stood := { row := varsMayRow, standIns := [], harness := (true, "639841fa2caed1936f880bf31f452d7ec1ad938b6e261e757fae51ab4bca86bc"), looks := false }, kinds := [], alts := [], laidByText := true, laidKinds := [.data], laidTests := true, laidLooks := .later }
def VarsMayCardSaid : Prop := Claim7.holds Tryd.pinned (.plain (OpenSpec.ofChange varsMaySpec)) varsMayCard

/-- THE TIED CARD OF 'linesidelaw02.VarsFinds'. -/
def varsFindsCard : Claim7 := { stood := { row := varsFindsRow, standIns := [], harness := (true, "639841fa2caed1936f880bf31f452d7ec1ad938b6e261e757fae51ab4bca86bc"), looks := false }, kinds := [], alts := [], laidByText := true, laidKinds := [.data], laidTests := true, laidLooks := .later }
def VarsFindsCardSaid : Prop := Claim7.holds Tryd.pinned (.plain (OpenSpec.ofChange varsFindsSpec)) varsFindsCard

/-- THE TIED CARD OF 'linesidelaw02.VarsFits'. -/
def varsFitsCard : Claim7 := { stood := { row := varsFitsRow, standIns := [], harness := (true, "639841fa2caed1936f880bf31f452d7ec1ad938b6e261e757fae51ab4bca86bc"), looks := false }, kinds := [], alts := [], laidByText := true, laidKinds := [.data], laidTests := true, laidLooks := .later }
def VarsFitsCardSaid : Prop := Claim7.holds Tryd.pinned (.plain (OpenSpec.ofChange varsFitsSpec)) varsFitsCard

/-- THE TIED CARD OF 'linesidelaw02.VarsNames'. -/
def varsNamesCard : Claim7 := { stood := { row := varsNamesRow, standIns := [], harness := (true, "639841fa2caed1936f880bf31f452d7ec1ad938b6e261e757fae51ab4bca86bc"), looks := false }, kinds := [], alts := [], laidByText := true, laidKinds := [.data], laidTests := true, laidLooks := .later }
def VarsNamesCardSaid : Prop := Claim7.holds Tryd.pinned (.plain (OpenSpec.ofChange varsNamesSpec)) varsNamesCard

/-- THE SECOND FORM's CARD OF 'linesidelaw02.VarsRows'. -/
def varsRowsUptoCard : Claim7 := { stood := { row := varsRowsUptoRow, standIns := [], harness := (true, "639841fa2caed1936f880bf31f452d7ec1ad938b6e261e757fae51ab4bca86bc"), looks := false }, kinds := [], alts := [], laidByText := true, laidKinds := [.data], laidTests := true, laidLooks := .later }
def VarsRowsUptoCardSaid : Prop := Claim7.holds Tryd.pinned (.plain (OpenSpec.upto varsRowsSpec)) varsRowsUptoCard

/-- THE SECOND FORM's CARD OF 'linesidelaw02.VarsMay'. -/
def varsMayUptoCard : Claim7 := { stood := { row := varsMayUptoRow, standIns := [], harness := (true, "639841fa2caed1936f880bf31f452d7ec1ad938b6e261e757fae51ab4bca86bc"), looks := false }, kinds := [], alts := [], laidByText := true, laidKinds := [.data], laidTests := true, laidLooks := .later }
def VarsMayUptoCardSaid : Prop := Claim7.holds Tryd.pinned (.plain (OpenSpec.upto varsMaySpec)) varsMayUptoCard

/-- THE SECOND FORM's CARD OF 'linesidelaw02.VarsFinds'. -/
def varsFindsUptoCard : Claim7 := { stood := { row := varsFindsUptoRow, standIns := [], harness := (true, "639841fa2caed1936f880bf31f452d7ec1ad938b6e261e757fae51ab4bca86bc"), looks := false }, kinds := [], alts := [], laidByText := true, laidKinds := [.data], laidTests := true, laidLooks := .later }
def VarsFindsUptoCardSaid : Prop := Claim7.holds Tryd.pinned (.plain (OpenSpec.upto varsFindsSpec)) varsFindsUptoCard

/-- THE SECOND FORM's CARD OF 'linesidelaw02.VarsFits'. -/
def varsFitsUptoCard : Claim7 := { stood := { row := varsFitsUptoRow, standIns := [], harness := (true, "639841fa2caed1936f880bf31f452d7ec1ad938b6e261e757fae51ab4bca86bc"), looks := false }, kinds := [], alts := [], laidByText := true, laidKinds := [.data], laidTests := true, laidLooks := .later }
def VarsFitsUptoCardSaid : Prop := Claim7.holds Tryd.pinned (.plain (OpenSpec.upto varsFitsSpec)) varsFitsUptoCard

/-- THE SECOND FORM's CARD OF 'linesidelaw02.VarsNames'. -/
def varsNamesUptoCard : Claim7 := { stood := { row := varsNamesUptoRow, standIns := [], harness := (true, "639841fa2caed1936f880bf31f452d7ec1ad938b6e261e757fae51ab4bca86bc"), looks := false }, kinds := [], alts := [], laidByText := true, laidKinds := [.data], laidTests := true, laidLooks := .later }
def VarsNamesUptoCardSaid : Prop := Claim7.holds Tryd.pinned (.plain (OpenSpec.upto varsNamesSpec)) varsNamesUptoCard
end Rows
end Go.Proofs.YtddmfjcimanilaaDoor
