/-
  NARROWER THAN 'FOR EVERY INPUT', by the rows' own cells (each row's printed sentence says how): PlanBuilds: laid · PlanReads: laid · PlanBack: laid · PlanChains: laid · PlanStretches: laid · PlanShrinks: laid.
  DERIVED. THE GIVEN ROWS OF THIS SEAT. 6 by the template 'for every input the law returns true; each argument reads behind the call as it read before'; 0 by the template 'total and deterministic' (their statements: YtpapiojicbbheaaGreatDoorTotals.lean).
  GIVEN WITH THE SEED: the statements are not yours to turn. If you find one false, say at which input.
  Laid BY PROGRAM, IN A SANDBOX (cutbox-rows.mjs): the forced cells as the released guide's own fill.sh prints them over the translation 710bb7badf3c55ce… (all of the seat's roots in one cut). By AI agents, Wed Nov 11 2026. No macro, syntax, notation, axiom, sorry.
-/
import Derived.Test.YtpapiojicbbheaaGreatDoorChecked
import GoSem.Claim
import GoSem.ClaimJoined
import GoSem.ClaimMapViews
import Derived.JoinedTies
import Derived.KernelRfl
namespace Go.Proofs.YtpapiojicbbheaaGreatDoor
/- THE CELL 'sum', in the pinned program and in every row, IS THE sha256 OF THE DUMP (.gsa) THAT YtpapiojicbbheaaGreatDoorProg.lean LOADS. Nothing in Lean hashes anything: it is a label: what it is worth is what the hold of that sum in a sandbox is worth. -/
noncomputable def Tryz.pinned : Pinned := { name := "ytpapiojicbbheaagreatdoor", sum := "710bb7badf3c55ce28df314c515832f8c5ef11793bc157898cfe7b3bbb15c8a1", checked := Tryz.checked }
namespace Rows
def none {H : Type} : Left H := { results := [], args := [] }

/- WHAT THE LISTED PACKAGE-LEVEL VARIABLES READ AS WHEN THE CALL BEGINS. Each datum BY PROGRAM (the guide's laid-datum.mjs) off the statement by which the dump's own 'gosem.cut.vars' lays the variable. In a bare row this is a premise. The card (YtpapiojicbbheaaGreatDoorCards.lean) ties it to the program's text. -/
def laid_lineside_vars_widths {H : Type} : DataW H := .agg [.lit (.int .i64 8), .lit (.int .i64 10), .lit (.int .i64 32), .lit (.int .i64 1), .lit (.int .i64 24), .lit (.int .i64 8), .lit (.int .i64 2), .lit (.int .i64 13), .lit (.int .i64 2), .lit (.int .i64 24), .lit (.int .i64 10), .lit (.int .i64 14), .lit (.int .i64 1), .lit (.int .i64 15), .lit (.int .i64 2), .lit (.int .i64 2), .lit (.int .i64 15), .lit (.int .i64 15), .lit (.int .i64 2), .lit (.int .i64 15), .lit (.int .i64 7), .lit (.int .i64 2), .lit (.int .i64 4), .lit (.int .i64 3), .lit (.int .i64 8), .lit (.int .i64 7), .lit (.int .i64 10), .lit (.int .i64 5), .lit (.int .i64 15), .lit (.int .i64 1), .lit (.int .i64 10), .lit (.int .i64 15), .lit (.int .i64 15), .lit (.int .i64 1), .lit (.int .i64 10), .lit (.int .i64 15), .lit (.int .i64 1), .lit (.int .i64 15), .lit (.int .i64 7), .lit (.int .i64 1), .lit (.int .i64 15), .lit (.int .i64 10), .lit (.int .i64 15), .lit (.int .i64 7), .lit (.int .i64 15), .lit (.int .i64 1), .lit (.int .i64 2), .lit (.int .i64 6), .lit (.int .i64 15), .lit (.int .i64 1), .lit (.int .i64 8), .lit (.int .i64 15), .lit (.int .i64 7), .lit (.int .i64 1), .lit (.int .i64 4), .lit (.int .i64 7), .lit (.int .i64 15), .lit (.int .i64 2), .lit (.int .i64 7), .lit (.int .i64 15), .lit (.int .i64 15), .lit (.int .i64 1), .lit (.int .i64 1), .lit (.int .i64 14), .lit (.int .i64 32), .lit (.int .i64 1), .lit (.int .i64 8), .lit (.int .i64 10), .lit (.int .i64 8), .lit (.int .i64 8), .lit (.int .i64 15), .lit (.int .i64 3), .lit (.int .i64 15), .lit (.int .i64 1), .lit (.int .i64 24), .lit (.int .i64 32), .lit (.int .i64 15), .lit (.int .i64 12), .lit (.int .i64 7), .lit (.int .i64 8), .lit (.int .i64 7), .lit (.int .i64 2), .lit (.int .i64 8), .lit (.int .i64 8), .lit (.int .i64 15), .lit (.int .i64 7), .lit (.int .i64 8), .lit (.int .i64 2), .lit (.int .i64 4), .lit (.int .i64 16), .lit (.int .i64 15), .lit (.int .i64 2), .lit (.int .i64 7), .lit (.int .i64 2), .lit (.int .i64 5), .lit (.int .i64 15)]

/-- 'linesidelaw17.PlanBuilds': WHATEVER THE INPUT: true; the input reads as it did. -/
def planBuildsSpec : ChangeSpec := { name := "planBuilds", fn := fun _ => fun
  | [d1, d2, d3, d4, d5, d6, d7] => { results := [.lit (.bool true)], args := [d1, d2, d3, d4, d5, d6, d7] }
  | _ => none }
def planBuildsRow : OpenClaim := { program := "ytpapiojicbbheaagreatdoor", sum := "710bb7badf3c55ce28df314c515832f8c5ef11793bc157898cfe7b3bbb15c8a1", func := "lineside/linesidelaw17.PlanBuilds", spec := "planBuilds", unfollowed := true, recurses := true, named := ["lineside/vars.widths"], plainKeys := false, apart := false, laid := [("lineside/vars.widths", laid_lineside_vars_widths)] }
def PlanBuildsSaid : Prop := planBuildsRow.holds Tryz.pinned (OpenSpec.ofChange planBuildsSpec)

/-- ITS FALSE NEIGHBOUR: 'it returns false'. Refute it at one input. -/
def planBuildsWrong : ChangeSpec := { name := "planBuilds", fn := fun _ => fun
  | [d1, d2, d3, d4, d5, d6, d7] => { results := [.lit (.bool false)], args := [d1, d2, d3, d4, d5, d6, d7] }
  | _ => none }
def PlanBuildsWrongFalsely : Prop := planBuildsRow.holds Tryz.pinned (OpenSpec.ofChange planBuildsWrong)

/-- 'linesidelaw17.PlanReads': WHATEVER THE INPUT: true; the input reads as it did. -/
def planReadsSpec : ChangeSpec := { name := "planReads", fn := fun _ => fun
  | [d1, d2, d3, d4] => { results := [.lit (.bool true)], args := [d1, d2, d3, d4] }
  | _ => none }
def planReadsRow : OpenClaim := { program := "ytpapiojicbbheaagreatdoor", sum := "710bb7badf3c55ce28df314c515832f8c5ef11793bc157898cfe7b3bbb15c8a1", func := "lineside/linesidelaw17.PlanReads", spec := "planReads", unfollowed := true, recurses := true, named := ["lineside/vars.widths"], plainKeys := false, apart := false, laid := [("lineside/vars.widths", laid_lineside_vars_widths)] }
def PlanReadsSaid : Prop := planReadsRow.holds Tryz.pinned (OpenSpec.ofChange planReadsSpec)

/-- ITS FALSE NEIGHBOUR: 'it returns false'. Refute it at one input. -/
def planReadsWrong : ChangeSpec := { name := "planReads", fn := fun _ => fun
  | [d1, d2, d3, d4] => { results := [.lit (.bool false)], args := [d1, d2, d3, d4] }
  | _ => none }
def PlanReadsWrongFalsely : Prop := planReadsRow.holds Tryz.pinned (OpenSpec.ofChange planReadsWrong)

/-- 'linesidelaw17.PlanBack': WHATEVER THE INPUT: true; the input reads as it did. -/
def planBackSpec : ChangeSpec := { name := "planBack", fn := fun _ => fun
  | [d1, d2, d3] => { results := [.lit (.bool true)], args := [d1, d2, d3] }
  | _ => none }
def planBackRow : OpenClaim := { program := "ytpapiojicbbheaagreatdoor", sum := "710bb7badf3c55ce28df314c515832f8c5ef11793bc157898cfe7b3bbb15c8a1", func := "lineside/linesidelaw17.PlanBack", spec := "planBack", unfollowed := true, recurses := true, named := ["lineside/vars.widths"], plainKeys := false, apart := false, laid := [("lineside/vars.widths", laid_lineside_vars_widths)] }
def PlanBackSaid : Prop := planBackRow.holds Tryz.pinned (OpenSpec.ofChange planBackSpec)

/-- ITS FALSE NEIGHBOUR: 'it returns false'. Refute it at one input. -/
def planBackWrong : ChangeSpec := { name := "planBack", fn := fun _ => fun
  | [d1, d2, d3] => { results := [.lit (.bool false)], args := [d1, d2, d3] }
  | _ => none }
def PlanBackWrongFalsely : Prop := planBackRow.holds Tryz.pinned (OpenSpec.ofChange planBackWrong)

/-- 'linesidelaw17.PlanChains': WHATEVER THE INPUT: true; the input reads as it did. -/
def planChainsSpec : ChangeSpec := { name := "planChains", fn := fun _ => fun
  | [d1, d2, d3, d4] => { results := [.lit (.bool true)], args := [d1, d2, d3, d4] }
  | _ => none }
def planChainsRow : OpenClaim := { program := "ytpapiojicbbheaagreatdoor", sum := "710bb7badf3c55ce28df314c515832f8c5ef11793bc157898cfe7b3bbb15c8a1", func := "lineside/linesidelaw17.PlanChains", spec := "planChains", unfollowed := true, recurses := true, named := ["lineside/vars.widths"], plainKeys := false, apart := false, laid := [("lineside/vars.widths", laid_lineside_vars_widths)] }
def PlanChainsSaid : Prop := planChainsRow.holds Tryz.pinned (OpenSpec.ofChange planChainsSpec)

/-- ITS FALSE NEIGHBOUR: 'it returns false'. Refute it at one input. -/
def planChainsWrong : ChangeSpec := { name := "planChains", fn := fun _ => fun
  | [d1, d2, d3, d4] => { results := [.lit (.bool false)], args := [d1, d2, d3, d4] }
  | _ => none }
def PlanChainsWrongFalsely : Prop := planChainsRow.holds Tryz.pinned (OpenSpec.ofChange planChainsWrong)

/-- 'linesidelaw17.PlanStretches': WHATEVER THE INPUT: true; the input reads as it did. -/
def planStretchesSpec : ChangeSpec := { name := "planStretches", fn := fun _ => fun
  | [d1, d2, d3] => { results := [.lit (.bool true)], args := [d1, d2, d3] }
  | _ => none }
def planStretchesRow : OpenClaim := { program := "ytpapiojicbbheaagreatdoor", sum := "710bb7badf3c55ce28df314c515832f8c5ef11793bc157898cfe7b3bbb15c8a1", func := "lineside/linesidelaw17.PlanStretches", spec := "planStretches", unfollowed := true, recurses := true, named := ["lineside/vars.widths"], plainKeys := false, apart := false, laid := [("lineside/vars.widths", laid_lineside_vars_widths)] }
def PlanStretchesSaid : Prop := planStretchesRow.holds Tryz.pinned (OpenSpec.ofChange planStretchesSpec)

/-- ITS FALSE NEIGHBOUR: 'it returns false'. Refute it at one input. -/
def planStretchesWrong : ChangeSpec := { name := "planStretches", fn := fun _ => fun
  | [d1, d2, d3] => { results := [.lit (.bool false)], args := [d1, d2, d3] }
  | _ => none }
def PlanStretchesWrongFalsely : Prop := planStretchesRow.holds Tryz.pinned (OpenSpec.ofChange planStretchesWrong)

/-- 'linesidelaw17.PlanShrinks': WHATEVER THE INPUT: true; the input reads as it did. -/
def planShrinksSpec : ChangeSpec := { name := "planShrinks", fn := fun _ => fun
  | [d1, d2, d3, d4, d5] => { results := [.lit (.bool true)], args := [d1, d2, d3, d4, d5] }
  | _ => none }
def planShrinksRow : OpenClaim := { program := "ytpapiojicbbheaagreatdoor", sum := "710bb7badf3c55ce28df314c515832f8c5ef11793bc157898cfe7b3bbb15c8a1", func := "lineside/linesidelaw17.PlanShrinks", spec := "planShrinks", unfollowed := true, recurses := true, named := ["lineside/vars.widths"], plainKeys := false, apart := false, laid := [("lineside/vars.widths", laid_lineside_vars_widths)] }
def PlanShrinksSaid : Prop := planShrinksRow.holds Tryz.pinned (OpenSpec.ofChange planShrinksSpec)

/-- ITS FALSE NEIGHBOUR: 'it returns false'. Refute it at one input. -/
def planShrinksWrong : ChangeSpec := { name := "planShrinks", fn := fun _ => fun
  | [d1, d2, d3, d4, d5] => { results := [.lit (.bool false)], args := [d1, d2, d3, d4, d5] }
  | _ => none }
def PlanShrinksWrongFalsely : Prop := planShrinksRow.holds Tryz.pinned (OpenSpec.ofChange planShrinksWrong)

/- THE SECOND FORM. 'bulk': how many values and letters a reading holds, each counted each time it is reached (what is shared counts as often as it is met; a slice's spare places count too). A statement '..UptoSaid' is the law's where the arguments, and the package variables that the reading takes, are together of bulk at most 1048576: NARROWER than '..Said'. Prove '..Said' where nothing that the law and all that it calls make is longer than what came in: it says more and counts as full. Else prove '..UptoSaid'. A law counts once. -/
mutual
def uptoBulk {H : Type} : DataW H → Nat
  | .lit (.string bytes) => bytes.length + 1
  | .lit _ => 1
  | .nil => 1
  | .ptr d => uptoBulk d + 1
  | .slice elems spare => uptoBulkAll elems + uptoBulkAll spare + 1
  | .agg parts => uptoBulkAll parts + 1
  | .iface _ d => uptoBulk d + 1
  | .map entries => uptoBulkEntries entries + 1
  | .held _ => 1
def uptoBulkAll {H : Type} : List (DataW H) → Nat
  | [] => 0
  | d :: r => uptoBulk d + uptoBulkAll r
def uptoBulkEntries {H : Type} : List (Lit × DataW H) → Nat
  | [] => 0
  | x :: r => uptoBulkEntry x + uptoBulkEntries r
def uptoBulkEntry {H : Type} : Lit × DataW H → Nat
  | (.string bytes, d) => bytes.length + uptoBulk d + 1
  | (_, d) => uptoBulk d + 1
 end
def uptoSmall : (H : Type) → List (DataW H) → Bool := fun _ ds => decide (uptoBulkAll ds ≤ 1048576)
def OpenSpec.upto (s : _root_.Go.ChangeSpec) : _root_.Go.OpenSpec := { _root_.Go.OpenSpec.ofChange s with cond := some uptoSmall }

/-- 'linesidelaw17.PlanBuilds', WHERE WHAT IT READS IS OF BULK AT MOST 1048576: true; the input reads as it did. -/
def planBuildsUptoRow : OpenClaim := { program := "ytpapiojicbbheaagreatdoor", sum := "710bb7badf3c55ce28df314c515832f8c5ef11793bc157898cfe7b3bbb15c8a1", func := "lineside/linesidelaw17.PlanBuilds", spec := "planBuilds", unfollowed := true, recurses := true, named := ["lineside/vars.widths"], plainKeys := false, apart := false, laid := [("lineside/vars.widths", laid_lineside_vars_widths)], narrowed := true }
def PlanBuildsUptoSaid : Prop := planBuildsUptoRow.holds Tryz.pinned (OpenSpec.upto planBuildsSpec)

/-- 'linesidelaw17.PlanReads', WHERE WHAT IT READS IS OF BULK AT MOST 1048576: true; the input reads as it did. -/
def planReadsUptoRow : OpenClaim := { program := "ytpapiojicbbheaagreatdoor", sum := "710bb7badf3c55ce28df314c515832f8c5ef11793bc157898cfe7b3bbb15c8a1", func := "lineside/linesidelaw17.PlanReads", spec := "planReads", unfollowed := true, recurses := true, named := ["lineside/vars.widths"], plainKeys := false, apart := false, laid := [("lineside/vars.widths", laid_lineside_vars_widths)], narrowed := true }
def PlanReadsUptoSaid : Prop := planReadsUptoRow.holds Tryz.pinned (OpenSpec.upto planReadsSpec)

/-- 'linesidelaw17.PlanBack', WHERE WHAT IT READS IS OF BULK AT MOST 1048576: true; the input reads as it did. -/
def planBackUptoRow : OpenClaim := { program := "ytpapiojicbbheaagreatdoor", sum := "710bb7badf3c55ce28df314c515832f8c5ef11793bc157898cfe7b3bbb15c8a1", func := "lineside/linesidelaw17.PlanBack", spec := "planBack", unfollowed := true, recurses := true, named := ["lineside/vars.widths"], plainKeys := false, apart := false, laid := [("lineside/vars.widths", laid_lineside_vars_widths)], narrowed := true }
def PlanBackUptoSaid : Prop := planBackUptoRow.holds Tryz.pinned (OpenSpec.upto planBackSpec)

/-- 'linesidelaw17.PlanChains', WHERE WHAT IT READS IS OF BULK AT MOST 1048576: true; the input reads as it did. -/
def planChainsUptoRow : OpenClaim := { program := "ytpapiojicbbheaagreatdoor", sum := "710bb7badf3c55ce28df314c515832f8c5ef11793bc157898cfe7b3bbb15c8a1", func := "lineside/linesidelaw17.PlanChains", spec := "planChains", unfollowed := true, recurses := true, named := ["lineside/vars.widths"], plainKeys := false, apart := false, laid := [("lineside/vars.widths", laid_lineside_vars_widths)], narrowed := true }
def PlanChainsUptoSaid : Prop := planChainsUptoRow.holds Tryz.pinned (OpenSpec.upto planChainsSpec)

/-- 'linesidelaw17.PlanStretches', WHERE WHAT IT READS IS OF BULK AT MOST 1048576: true; the input reads as it did. -/
def planStretchesUptoRow : OpenClaim := { program := "ytpapiojicbbheaagreatdoor", sum := "710bb7badf3c55ce28df314c515832f8c5ef11793bc157898cfe7b3bbb15c8a1", func := "lineside/linesidelaw17.PlanStretches", spec := "planStretches", unfollowed := true, recurses := true, named := ["lineside/vars.widths"], plainKeys := false, apart := false, laid := [("lineside/vars.widths", laid_lineside_vars_widths)], narrowed := true }
def PlanStretchesUptoSaid : Prop := planStretchesUptoRow.holds Tryz.pinned (OpenSpec.upto planStretchesSpec)

/-- 'linesidelaw17.PlanShrinks', WHERE WHAT IT READS IS OF BULK AT MOST 1048576: true; the input reads as it did. -/
def planShrinksUptoRow : OpenClaim := { program := "ytpapiojicbbheaagreatdoor", sum := "710bb7badf3c55ce28df314c515832f8c5ef11793bc157898cfe7b3bbb15c8a1", func := "lineside/linesidelaw17.PlanShrinks", spec := "planShrinks", unfollowed := true, recurses := true, named := ["lineside/vars.widths"], plainKeys := false, apart := false, laid := [("lineside/vars.widths", laid_lineside_vars_widths)], narrowed := true }
def PlanShrinksUptoSaid : Prop := planShrinksUptoRow.holds Tryz.pinned (OpenSpec.upto planShrinksSpec)

end Rows
end Go.Proofs.YtpapiojicbbheaaGreatDoor
