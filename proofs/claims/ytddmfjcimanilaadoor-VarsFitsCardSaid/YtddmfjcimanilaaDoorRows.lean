/-
  NARROWER THAN 'FOR EVERY INPUT', by the rows' own cells (each row's printed sentence says how): VarsRows: laid · VarsMay: laid · VarsFinds: laid · VarsFits: laid · VarsNames: laid.
  DERIVED. THE GIVEN ROWS OF THIS SEAT. 5 by the template 'for every input the law returns true; each argument reads behind the call as it read before'; 0 by the template 'total and deterministic' (their statements: YtddmfjcimanilaaDoorTotals.lean).
  GIVEN WITH THE SEED: the statements are not yours to turn. If you find one false, say at which input.
  Laid BY PROGRAM, IN A SANDBOX (cutbox-rows.mjs): the forced cells as the released guide's own fill.sh prints them over the translation 0d2f96eb3aba9621… (all of the seat's roots in one cut). By AI agents, Wed Nov 11 2026. No macro, syntax, notation, axiom, sorry.
-/
import Derived.Test.YtddmfjcimanilaaDoorChecked
import GoSem.Claim
import GoSem.ClaimJoined
import GoSem.ClaimMapViews
import Derived.JoinedTies
import Derived.KernelRfl
namespace Go.Proofs.YtddmfjcimanilaaDoor
/- THE CELL 'sum', in the pinned program and in every row, IS THE sha256 OF THE DUMP (.gsa) THAT YtddmfjcimanilaaDoorProg.lean LOADS. Nothing in Lean hashes anything: it is a label: what it is worth is what the hold of that sum in a sandbox is worth. -/
noncomputable def Tryd.pinned : Pinned := { name := "ytddmfjcimanilaadoor", sum := "0d2f96eb3aba96211fc2a72ea7bc32012e88cbdda5346c533c26c25e9e5f6edb", checked := Tryd.checked }
namespace Rows
def none {H : Type} : Left H := { results := [], args := [] }

/- WHAT THE LISTED PACKAGE-LEVEL VARIABLES READ AS WHEN THE CALL BEGINS. Each datum BY PROGRAM (the guide's laid-datum.mjs) off the statement by which the dump's own 'gosem.cut.vars' lays the variable. In a bare row this is a premise. The card (YtddmfjcimanilaaDoorCards.lean) ties it to the program's text. -/
def laid_lineside_vars_widths {H : Type} : DataW H := .agg [.lit (.int .i64 8), .lit (.int .i64 10), .lit (.int .i64 32), .lit (.int .i64 1), .lit (.int .i64 24), .lit (.int .i64 8), .lit (.int .i64 2), .lit (.int .i64 13), .lit (.int .i64 2), .lit (.int .i64 24), .lit (.int .i64 10), .lit (.int .i64 14), .lit (.int .i64 1), .lit (.int .i64 15), .lit (.int .i64 2), .lit (.int .i64 2), .lit (.int .i64 15), .lit (.int .i64 15), .lit (.int .i64 2), .lit (.int .i64 15), .lit (.int .i64 7), .lit (.int .i64 2), .lit (.int .i64 4), .lit (.int .i64 3), .lit (.int .i64 8), .lit (.int .i64 7), .lit (.int .i64 10), .lit (.int .i64 5), .lit (.int .i64 15), .lit (.int .i64 1), .lit (.int .i64 10), .lit (.int .i64 15), .lit (.int .i64 15), .lit (.int .i64 1), .lit (.int .i64 10), .lit (.int .i64 15), .lit (.int .i64 1), .lit (.int .i64 15), .lit (.int .i64 7), .lit (.int .i64 1), .lit (.int .i64 15), .lit (.int .i64 10), .lit (.int .i64 15), .lit (.int .i64 7), .lit (.int .i64 15), .lit (.int .i64 1), .lit (.int .i64 2), .lit (.int .i64 6), .lit (.int .i64 15), .lit (.int .i64 1), .lit (.int .i64 8), .lit (.int .i64 15), .lit (.int .i64 7), .lit (.int .i64 1), .lit (.int .i64 4), .lit (.int .i64 7), .lit (.int .i64 15), .lit (.int .i64 2), .lit (.int .i64 7), .lit (.int .i64 15), .lit (.int .i64 15), .lit (.int .i64 1), .lit (.int .i64 1), .lit (.int .i64 14), .lit (.int .i64 32), .lit (.int .i64 1), .lit (.int .i64 8), .lit (.int .i64 10), .lit (.int .i64 8), .lit (.int .i64 8), .lit (.int .i64 15), .lit (.int .i64 3), .lit (.int .i64 15), .lit (.int .i64 1), .lit (.int .i64 24), .lit (.int .i64 32), .lit (.int .i64 15), .lit (.int .i64 12), .lit (.int .i64 7), .lit (.int .i64 8), .lit (.int .i64 7), .lit (.int .i64 2), .lit (.int .i64 8), .lit (.int .i64 8), .lit (.int .i64 15), .lit (.int .i64 7), .lit (.int .i64 8), .lit (.int .i64 2), .lit (.int .i64 4), .lit (.int .i64 16), .lit (.int .i64 15), .lit (.int .i64 2), .lit (.int .i64 7), .lit (.int .i64 2), .lit (.int .i64 5), .lit (.int .i64 15)]

/-- 'linesidelaw02.VarsRows': WHATEVER THE INPUT: true; the input reads as it did. -/
def varsRowsSpec : ChangeSpec := { name := "varsRows", fn := fun _ => fun
  | [d] => { results := [.lit (.bool true)], args := [d] }
  | _ => none }
def varsRowsRow : OpenClaim := { program := "ytddmfjcimanilaadoor", sum := "0d2f96eb3aba96211fc2a72ea7bc32012e88cbdda5346c533c26c25e9e5f6edb", func := "lineside/linesidelaw02.VarsRows", spec := "varsRows", inPlace := ["internal/bytealg.IndexByteString", "internal/bytealg.IndexString"], named := ["lineside/vars.widths", "internal/bytealg.MaxLen"], apart := false, laid := [("lineside/vars.widths", laid_lineside_vars_widths)] }
def VarsRowsSaid : Prop := varsRowsRow.holds Tryd.pinned (OpenSpec.ofChange varsRowsSpec)

/-- ITS FALSE NEIGHBOUR: 'it returns false'. Refute it at one input. -/
def varsRowsWrong : ChangeSpec := { name := "varsRows", fn := fun _ => fun
  | [d] => { results := [.lit (.bool false)], args := [d] }
  | _ => none }
def VarsRowsWrongFalsely : Prop := varsRowsRow.holds Tryd.pinned (OpenSpec.ofChange varsRowsWrong)

/-- 'linesidelaw02.VarsMay': WHATEVER THE INPUT: true; the input reads as it did. -/
def varsMaySpec : ChangeSpec := { name := "varsMay", fn := fun _ => fun
  | [d1, d2] => { results := [.lit (.bool true)], args := [d1, d2] }
  | _ => none }
def varsMayRow : OpenClaim := { program := "ytddmfjcimanilaadoor", sum := "0d2f96eb3aba96211fc2a72ea7bc32012e88cbdda5346c533c26c25e9e5f6edb", func := "lineside/linesidelaw02.VarsMay", spec := "varsMay", inPlace := ["internal/bytealg.IndexByteString", "internal/bytealg.IndexString"], named := ["lineside/vars.widths", "internal/bytealg.MaxLen"], apart := false, laid := [("lineside/vars.widths", laid_lineside_vars_widths)] }
def VarsMaySaid : Prop := varsMayRow.holds Tryd.pinned (OpenSpec.ofChange varsMaySpec)

/-- ITS FALSE NEIGHBOUR: 'it returns false'. Refute it at one input. -/
def varsMayWrong : ChangeSpec := { name := "varsMay", fn := fun _ => fun
  | [d1, d2] => { results := [.lit (.bool false)], args := [d1, d2] }
  | _ => none }
def VarsMayWrongFalsely : Prop := varsMayRow.holds Tryd.pinned (OpenSpec.ofChange varsMayWrong)

/-- 'linesidelaw02.VarsFinds': WHATEVER THE INPUT: true; the input reads as it did. -/
def varsFindsSpec : ChangeSpec := { name := "varsFinds", fn := fun _ => fun
  | [d] => { results := [.lit (.bool true)], args := [d] }
  | _ => none }
def varsFindsRow : OpenClaim := { program := "ytddmfjcimanilaadoor", sum := "0d2f96eb3aba96211fc2a72ea7bc32012e88cbdda5346c533c26c25e9e5f6edb", func := "lineside/linesidelaw02.VarsFinds", spec := "varsFinds", inPlace := ["internal/bytealg.IndexByteString", "internal/bytealg.IndexString"], named := ["lineside/vars.widths", "internal/bytealg.MaxLen"], apart := false, laid := [("lineside/vars.widths", laid_lineside_vars_widths)] }
def VarsFindsSaid : Prop := varsFindsRow.holds Tryd.pinned (OpenSpec.ofChange varsFindsSpec)

/-- ITS FALSE NEIGHBOUR: 'it returns false'. Refute it at one input. -/
def varsFindsWrong : ChangeSpec := { name := "varsFinds", fn := fun _ => fun
  | [d] => { results := [.lit (.bool false)], args := [d] }
  | _ => none }
def VarsFindsWrongFalsely : Prop := varsFindsRow.holds Tryd.pinned (OpenSpec.ofChange varsFindsWrong)

/-- 'linesidelaw02.VarsFits': WHATEVER THE INPUT: true; the input reads as it did. -/
def varsFitsSpec : ChangeSpec := { name := "varsFits", fn := fun _ => fun
  | [d1, d2] => { results := [.lit (.bool true)], args := [d1, d2] }
  | _ => none }
def varsFitsRow : OpenClaim := { program := "ytddmfjcimanilaadoor", sum := "0d2f96eb3aba96211fc2a72ea7bc32012e88cbdda5346c533c26c25e9e5f6edb", func := "lineside/linesidelaw02.VarsFits", spec := "varsFits", inPlace := ["internal/bytealg.IndexByteString", "internal/bytealg.IndexString"], named := ["lineside/vars.widths", "internal/bytealg.MaxLen"], apart := false, laid := [("lineside/vars.widths", laid_lineside_vars_widths)] }
def VarsFitsSaid : Prop := varsFitsRow.holds Tryd.pinned (OpenSpec.ofChange varsFitsSpec)

/-- ITS FALSE NEIGHBOUR: 'it returns false'. Refute it at one input. -/
def varsFitsWrong : ChangeSpec := { name := "varsFits", fn := fun _ => fun
  | [d1, d2] => { results := [.lit (.bool false)], args := [d1, d2] }
  | _ => none }
def VarsFitsWrongFalsely : Prop := varsFitsRow.holds Tryd.pinned (OpenSpec.ofChange varsFitsWrong)

/-- 'linesidelaw02.VarsNames': WHATEVER THE INPUT: true; the input reads as it did. -/
def varsNamesSpec : ChangeSpec := { name := "varsNames", fn := fun _ => fun
  | [d1, d2] => { results := [.lit (.bool true)], args := [d1, d2] }
  | _ => none }
def varsNamesRow : OpenClaim := { program := "ytddmfjcimanilaadoor", sum := "0d2f96eb3aba96211fc2a72ea7bc32012e88cbdda5346c533c26c25e9e5f6edb", func := "lineside/linesidelaw02.VarsNames", spec := "varsNames", inPlace := ["internal/bytealg.IndexByteString", "internal/bytealg.IndexString"], named := ["lineside/vars.widths", "internal/bytealg.MaxLen"], apart := false, laid := [("lineside/vars.widths", laid_lineside_vars_widths)] }
def VarsNamesSaid : Prop := varsNamesRow.holds Tryd.pinned (OpenSpec.ofChange varsNamesSpec)

/-- ITS FALSE NEIGHBOUR: 'it returns false'. Refute it at one input. -/
def varsNamesWrong : ChangeSpec := { name := "varsNames", fn := fun _ => fun
  | [d1, d2] => { results := [.lit (.bool false)], args := [d1, d2] }
  | _ => none }
def VarsNamesWrongFalsely : Prop := varsNamesRow.holds Tryd.pinned (OpenSpec.ofChange varsNamesWrong)

/- THE SECOND FORM. 'bulk': how many values and letters a reading holds, each counted each time it is reached (what is shared counts as often as it is met; a slice's spare places count too). A statement '..UptoSaid' is the law's where the arguments, and the package variables that the reading takes, are together of bulk at most 1048576: NARROWER than '..Said'. Prove '..Said' where nothing that the law and all that it calls make is longer than what came in: it says more and counts as full. Else prove '..UptoSaid'. A law counts once. -/
mutual
def uptoBulk {H : Type} : DataW H → Nat
  | .lit (.string bytes) => bytes.length + 1
  | .lit _ => 1
  | .nil => 1
  | .ptr d => uptoBulk d + 1
  | .slice elems spare => uptoBulkAll elems + uptoBulkAll spare + 1
  | .agg parts => uptoBulkAll parts + 1
  | .iface _ d => uptoBulk d + 1
  | .map entries => uptoBulkEntries entries + 1
  | .held _ => 1
def uptoBulkAll {H : Type} : List (DataW H) → Nat
  | [] => 0
  | d :: r => uptoBulk d + uptoBulkAll r
def uptoBulkEntries {H : Type} : List (Lit × DataW H) → Nat
  | [] => 0
  | x :: r => uptoBulkEntry x + uptoBulkEntries r
def uptoBulkEntry {H : Type} : Lit × DataW H → Nat
  | (.string bytes, d) => bytes.length + uptoBulk d + 1
  | (_, d) => uptoBulk d + 1
 end
def uptoSmall : (H : Type) → List (DataW H) → Bool := fun _ ds => decide (uptoBulkAll ds ≤ 1048576)
def OpenSpec.upto (s : _root_.Go.ChangeSpec) : _root_.Go.OpenSpec := { _root_.Go.OpenSpec.ofChange s with cond := some uptoSmall }

/-- 'linesidelaw02.VarsRows', WHERE WHAT IT READS IS OF BULK AT MOST 1048576: true; the input reads as it did. -/
def varsRowsUptoRow : OpenClaim := { program := "ytddmfjcimanilaadoor", sum := "0d2f96eb3aba96211fc2a72ea7bc32012e88cbdda5346c533c26c25e9e5f6edb", func := "lineside/linesidelaw02.VarsRows", spec := "varsRows", inPlace := ["internal/bytealg.IndexByteString", "internal/bytealg.IndexString"], named := ["lineside/vars.widths", "internal/bytealg.MaxLen"], apart := false, laid := [("lineside/vars.widths", laid_lineside_vars_widths)], narrowed := true }
def VarsRowsUptoSaid : Prop := varsRowsUptoRow.holds Tryd.pinned (OpenSpec.upto varsRowsSpec)

/-- 'linesidelaw02.VarsMay', WHERE WHAT IT READS IS OF BULK AT MOST 1048576: true; the input reads as it did. -/
def varsMayUptoRow : OpenClaim := { program := "ytddmfjcimanilaadoor", sum := "0d2f96eb3aba96211fc2a72ea7bc32012e88cbdda5346c533c26c25e9e5f6edb", func := "lineside/linesidelaw02.VarsMay", spec := "varsMay", inPlace := ["internal/bytealg.IndexByteString", "internal/bytealg.IndexString"], named := ["lineside/vars.widths", "internal/bytealg.MaxLen"], apart := false, laid := [("lineside/vars.widths", laid_lineside_vars_widths)], narrowed := true }
def VarsMayUptoSaid : Prop := varsMayUptoRow.holds Tryd.pinned (OpenSpec.upto varsMaySpec)

/-- 'linesidelaw02.VarsFinds', WHERE WHAT IT READS IS OF BULK AT MOST 1048576: true; the input reads as it did. -/
def varsFindsUptoRow : OpenClaim := { program := "ytddmfjcimanilaadoor", sum := "0d2f96eb3aba96211fc2a72ea7bc32012e88cbdda5346c533c26c25e9e5f6edb", func := "lineside/linesidelaw02.VarsFinds", spec := "varsFinds", inPlace := ["internal/bytealg.IndexByteString", "internal/bytealg.IndexString"], named := ["lineside/vars.widths", "internal/bytealg.MaxLen"], apart := false, laid := [("lineside/vars.widths", laid_lineside_vars_widths)], narrowed := true }
def VarsFindsUptoSaid : Prop := varsFindsUptoRow.holds Tryd.pinned (OpenSpec.upto varsFindsSpec)

/-- 'linesidelaw02.VarsFits', WHERE WHAT IT READS IS OF BULK AT MOST 1048576: true; the input reads as it did. -/
def varsFitsUptoRow : OpenClaim := { program := "ytddmfjcimanilaadoor", sum := "0d2f96eb3aba96211fc2a72ea7bc32012e88cbdda5346c533c26c25e9e5f6edb", func := "lineside/linesidelaw02.VarsFits", spec := "varsFits", inPlace := ["internal/bytealg.IndexByteString", "internal/bytealg.IndexString"], named := ["lineside/vars.widths", "internal/bytealg.MaxLen"], apart := false, laid := [("lineside/vars.widths", laid_lineside_vars_widths)], narrowed := true }
def VarsFitsUptoSaid : Prop := varsFitsUptoRow.holds Tryd.pinned (OpenSpec.upto varsFitsSpec)

/-- 'linesidelaw02.VarsNames', WHERE WHAT IT READS IS OF BULK AT MOST 1048576: true; the input reads as it did. -/
def varsNamesUptoRow : OpenClaim := { program := "ytddmfjcimanilaadoor", sum := "0d2f96eb3aba96211fc2a72ea7bc32012e88cbdda5346c533c26c25e9e5f6edb", func := "lineside/linesidelaw02.VarsNames", spec := "varsNames", inPlace := ["internal/bytealg.IndexByteString", "internal/bytealg.IndexString"], named := ["lineside/vars.widths", "internal/bytealg.MaxLen"], apart := false, laid := [("lineside/vars.widths", laid_lineside_vars_widths)], narrowed := true }
def VarsNamesUptoSaid : Prop := varsNamesUptoRow.holds Tryd.pinned (OpenSpec.upto varsNamesSpec)

end Rows
end Go.Proofs.YtddmfjcimanilaaDoor
