/-
  DERIVED. GIVEN WITH THE SEED: THE CARDS: each row of YtpapiojicbbheaaGreatDoorRows.lean that lists a variable, with what it lists TIED to the program's text (the seventh form; the later family's looks); each row that meets fmt, with fmt's text TOLD by the authors' own Lean function (tested against real Go, not proved from fmt's source: count such statements apart). THE CARD IS WHAT COUNTS. Prove the row's statement (the work); the ties are given (YtpapiojicbbheaaGreatDoorTie.lean); close each card by the builder's one call (the guide's Derived/Test/ToyasCard.lean, 'card_holds'). Laid BY PROGRAM, IN A SANDBOX (cutbox-door.mjs). By AI agents, Wed Nov 11 2026. No macro, syntax, notation, axiom, sorry.
-/
import Derived.Test.YtpapiojicbbheaaGreatDoorRows
import GoSem.ClaimSeven
namespace Go.Proofs.YtpapiojicbbheaaGreatDoor
namespace Rows

/-- THE TIED CARD OF 'linesidelaw17.PlanBuilds'. -/
def planBuildsCard : Claim7 := { stood := { row := planBuildsRow, standIns := [], harness := (true, "c0b45d5622473e9073508021f052f533596e01d048ab3d20ed9500d5d192dca3"), looks := true }, kinds := [], alts := [], laidByText := true, laidKinds := [.data], laidTests := true, laidLooks := .later }
def PlanBuildsCardSaid : Prop := Claim7.holds Tryz.pinned (.plain (OpenSpec.ofChange planBuildsSpec)) planBuildsCard

/-- THE TIED CARD OF 'linesidelaw17.PlanReads'. -/
def planReadsCard : Claim7 := { stood := { row := planReadsRow, standIns := [], harness := (true, "c0b45d5622473e9073508021f052f533596e01d048ab3d20ed9500d5d192dca3"), looks := true }, kinds := [], alts := [], laidByText := true, laidKinds := [.data], laidTests := true, laidLooks := .later }
def PlanReadsCardSaid : Prop := Claim7.holds Tryz.pinned (.plain (OpenSpec.ofChange planReadsSpec)) planReadsCard

/-- THE TIED CARD OF 'linesidelaw17.PlanBack'. -/
def planBackCard : Claim7 := { stood := { row := planBackRow, standIns := [], harness := (true, "c0b45d5622473e9073508021f052f533596e01d048ab3d20ed9500d5d192dca3"), looks := true }, kinds := [], alts := [], laidByText := true, laidKinds := [.data], laidTests := true, laidLooks := .later }
def PlanBackCardSaid : Prop := Claim7.holds Tryz.pinned (.plain (OpenSpec.ofChange planBackSpec)) planBackCard

/-- THE TIED CARD OF 'linesidelaw17.PlanChains'. -/
def planChainsCard : Claim7 := { stood := { row := planChainsRow, standIns := [], harness := (true, "c0b45d5622473e9073508021f052f533596e01d048ab3d20ed9500d5d192dca3"), looks := true }, kinds := [], alts := [], laidByText := true, laidKinds := [.data], laidTests := true, laidLooks := .later }
def PlanChainsCardSaid : Prop := Claim7.holds Tryz.pinned (.plain (OpenSpec.ofChange planChainsSpec)) planChainsCard

/-- THE TIED CARD OF 'linesidelaw17.PlanStretches'. -/
def planStretchesCard : Claim7 := { stood := { row := planStretchesRow, standIns := [], harness := (true, "c0b45d5622473e9073508021f052f533596e01d048ab3d20ed9500d5d192dca3"), looks := true }, kinds := [], alts := [], laidByText := true, laidKinds := [.data], laidTests := true, laidLooks := .later }
def PlanStretchesCardSaid : Prop := Claim7.holds Tryz.pinned (.plain (OpenSpec.ofChange planStretchesSpec)) planStretchesCard

/-- THE TIED CARD OF 'linesidelaw17.PlanShrinks'. -/
def planShrinksCard : Claim7 := { stood := { row := planShrinksRow, standIns := [], harness := (true, "c0b45d5622473e9073508021f052f533596e01d048ab3d20ed9500d5d192dca3"), looks := true }, kinds := [], alts := [], laidByText := true, laidKinds := [.data], laidTests := true, laidLooks := .later }
def PlanShrinksCardSaid : Prop := Claim7.holds Tryz.pinned (.plain (OpenSpec.ofChange planShrinksSpec)) planShrinksCard

/-- THE SECOND FORM's CARD OF 'linesidelaw17.PlanBuilds'. -/
def planBuildsUptoCard : Claim7 := { stood := { row := planBuildsUptoRow, standIns := [], harness := (true, "c0b45d5622473e9073508021f052f533596e01d048ab3d20ed9500d5d192dca3"), looks := true }, kinds := [], alts := [], laidByText := true, laidKinds := [.data], laidTests := true, laidLooks := .later }
def PlanBuildsUptoCardSaid : Prop := Claim7.holds Tryz.pinned (.plain (OpenSpec.upto planBuildsSpec)) planBuildsUptoCard

/-- THE SECOND FORM's CARD OF 'linesidelaw17.PlanReads'. -/
def planReadsUptoCard : Claim7 := { stood := { row := planReadsUptoRow, standIns := [], harness := (true, "c0b45d5622473e9073508021f052f533596e01d048ab3d20ed9500d5d192dca3"), looks := true }, kinds := [], alts := [], laidByText := true, laidKinds := [.data], laidTests := true, laidLooks := .later }
def PlanReadsUptoCardSaid : Prop := Claim7.holds Tryz.pinned (.plain (OpenSpec.upto planReadsSpec)) planReadsUptoCard

/-- THE SECOND FORM's CARD OF 'linesidelaw17.PlanBack'. -/
def planBackUptoCard : Claim7 := { stood := { row := planBackUptoRow, standIns := [], harness := (true, "c0b45d5622473e9073508021f052f533596e01d048ab3d20ed9500d5d192dca3"), looks := true }, kinds := [], alts := [], laidByText := true, laidKinds := [.data], laidTests := true, laidLooks := .later }
def PlanBackUptoCardSaid : Prop := Claim7.holds Tryz.pinned (.plain (OpenSpec.upto planBackSpec)) planBackUptoCard

/-- THE SECOND FORM's CARD OF 'linesidelaw17.PlanChains'. -/
def planChainsUptoCard : Claim7 := { stood := { row := planChainsUptoRow, standIns := [], harness := (true, "c0b45d5622473e9073508021f052f533596e01d048ab3d20ed9500d5d192dca3"), looks := true }, kinds := [], alts := [], laidByText := true, laidKinds := [.data], laidTests := true, laidLooks := .later }
def PlanChainsUptoCardSaid : Prop := Claim7.holds Tryz.pinned (.plain (OpenSpec.upto planChainsSpec)) planChainsUptoCard

/-- THE SECOND FORM's CARD OF 'linesidelaw17.PlanStretches'. -/
def planStretchesUptoCard : Claim7 := { stood := { row := planStretchesUptoRow, standIns := [], harness := (true, "c0b45d5622473e9073508021f052f533596e01d048ab3d20ed9500d5d192dca3"), looks := true }, kinds := [], alts := [], laidByText := true, laidKinds := [.data], laidTests := true, laidLooks := .later }
def PlanStretchesUptoCardSaid : Prop := Claim7.holds Tryz.pinned (.plain (OpenSpec.upto planStretchesSpec)) planStretchesUptoCard

/-- THE SECOND FORM's CARD OF 'linesidelaw17.PlanShrinks'. -/
def planShrinksUptoCard : Claim7 := { stood := { row := planShrinksUptoRow, standIns := [], harness := (true, "c0b45d5622473e9073508021f052f533596e01d048ab3d20ed9500d5d192dca3"), looks := true }, kinds := [], alts := [], laidByText := true, laidKinds := [.data], laidTests := true, laidLooks := .later }
def PlanShrinksUptoCardSaid : Prop := Claim7.holds Tryz.pinned (.plain (OpenSpec.upto planShrinksSpec)) planShrinksUptoCard
end Rows
end Go.Proofs.YtpapiojicbbheaaGreatDoor
