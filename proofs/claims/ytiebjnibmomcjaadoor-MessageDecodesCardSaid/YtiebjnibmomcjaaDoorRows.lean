/-
  NARROWER THAN 'FOR EVERY INPUT', by the rows' own cells (each row's printed sentence says how): MessageEncodes: laid · MessageDecodes: laid · MessageBack: laid · MessageOnly: laid · MessageCut: laid · MessagePackets: laid · MessageSides: laid.
  DERIVED. THE GIVEN ROWS OF THIS SEAT. 7 by the template 'for every input the law returns true; each argument reads behind the call as it read before'; 0 by the template 'total and deterministic' (their statements: YtiebjnibmomcjaaDoorTotals.lean).
  GIVEN WITH THE SEED: the statements are not yours to turn. If you find one false, say at which input.
  Laid BY PROGRAM, IN A SANDBOX (cutbox-rows.mjs): the forced cells as the released guide's own fill.sh prints them over the translation fd57a41ce4262db7… (all of the seat's roots in one cut). By AI agents, Wed Nov 11 2026. No macro, syntax, notation, axiom, sorry.
-/
import Derived.Test.YtiebjnibmomcjaaDoorChecked
import GoSem.Claim
import GoSem.ClaimJoined
import GoSem.ClaimMapViews
import Derived.JoinedTies
import Derived.KernelRfl
namespace Go.Proofs.YtiebjnibmomcjaaDoor
/- THE CELL 'sum', in the pinned program and in every row, IS THE sha256 OF THE DUMP (.gsa) THAT YtiebjnibmomcjaaDoorProg.lean LOADS. Nothing in Lean hashes anything: it is a label: what it is worth is what the hold of that sum in a sandbox is worth. -/
noncomputable def Tryd.pinned : Pinned := { name := "ytiebjnibmomcjaadoor", sum := "fd57a41ce4262db75ad94f7d88657cf1aec897d264d541e357fbf3e58e9138b8", checked := Tryd.checked }
namespace Rows
def none {H : Type} : Left H := { results := [], args := [] }

/- WHAT THE LISTED PACKAGE-LEVEL VARIABLES READ AS WHEN THE CALL BEGINS. Each datum BY PROGRAM (the guide's laid-datum.mjs) off the statement by which the dump's own 'gosem.cut.vars' lays the variable. In a bare row this is a premise. The card (YtiebjnibmomcjaaDoorCards.lean) ties it to the program's text. -/
def laid_lineside_vars_widths {H : Type} : DataW H := .agg [.lit (.int .i64 8), .lit (.int .i64 10), .lit (.int .i64 32), .lit (.int .i64 1), .lit (.int .i64 24), .lit (.int .i64 8), .lit (.int .i64 2), .lit (.int .i64 13), .lit (.int .i64 2), .lit (.int .i64 24), .lit (.int .i64 10), .lit (.int .i64 14), .lit (.int .i64 1), .lit (.int .i64 15), .lit (.int .i64 2), .lit (.int .i64 2), .lit (.int .i64 15), .lit (.int .i64 15), .lit (.int .i64 2), .lit (.int .i64 15), .lit (.int .i64 7), .lit (.int .i64 2), .lit (.int .i64 4), .lit (.int .i64 3), .lit (.int .i64 8), .lit (.int .i64 7), .lit (.int .i64 10), .lit (.int .i64 5), .lit (.int .i64 15), .lit (.int .i64 1), .lit (.int .i64 10), .lit (.int .i64 15), .lit (.int .i64 15), .lit (.int .i64 1), .lit (.int .i64 10), .lit (.int .i64 15), .lit (.int .i64 1), .lit (.int .i64 15), .lit (.int .i64 7), .lit (.int .i64 1), .lit (.int .i64 15), .lit (.int .i64 10), .lit (.int .i64 15), .lit (.int .i64 7), .lit (.int .i64 15), .lit (.int .i64 1), .lit (.int .i64 2), .lit (.int .i64 6), .lit (.int .i64 15), .lit (.int .i64 1), .lit (.int .i64 8), .lit (.int .i64 15), .lit (.int .i64 7), .lit (.int .i64 1), .lit (.int .i64 4), .lit (.int .i64 7), .lit (.int .i64 15), .lit (.int .i64 2), .lit (.int .i64 7), .lit (.int .i64 15), .lit (.int .i64 15), .lit (.int .i64 1), .lit (.int .i64 1), .lit (.int .i64 14), .lit (.int .i64 32), .lit (.int .i64 1), .lit (.int .i64 8), .lit (.int .i64 10), .lit (.int .i64 8), .lit (.int .i64 8), .lit (.int .i64 15), .lit (.int .i64 3), .lit (.int .i64 15), .lit (.int .i64 1), .lit (.int .i64 24), .lit (.int .i64 32), .lit (.int .i64 15), .lit (.int .i64 12), .lit (.int .i64 7), .lit (.int .i64 8), .lit (.int .i64 7), .lit (.int .i64 2), .lit (.int .i64 8), .lit (.int .i64 8), .lit (.int .i64 15), .lit (.int .i64 7), .lit (.int .i64 8), .lit (.int .i64 2), .lit (.int .i64 4), .lit (.int .i64 16), .lit (.int .i64 15), .lit (.int .i64 2), .lit (.int .i64 7), .lit (.int .i64 2), .lit (.int .i64 5), .lit (.int .i64 15)]

/-- 'linesidelaw06.MessageEncodes': WHATEVER THE INPUT: true; the input reads as it did. -/
def messageEncodesSpec : ChangeSpec := { name := "messageEncodes", fn := fun _ => fun
  | [d] => { results := [.lit (.bool true)], args := [d] }
  | _ => none }
def messageEncodesRow : OpenClaim := { program := "ytiebjnibmomcjaadoor", sum := "fd57a41ce4262db75ad94f7d88657cf1aec897d264d541e357fbf3e58e9138b8", func := "lineside/linesidelaw06.MessageEncodes", spec := "messageEncodes", unfollowed := true, recurses := true, named := ["lineside/vars.widths"], apart := false, laid := [("lineside/vars.widths", laid_lineside_vars_widths)] }
def MessageEncodesSaid : Prop := messageEncodesRow.holds Tryd.pinned (OpenSpec.ofChange messageEncodesSpec)

/-- ITS FALSE NEIGHBOUR: 'it returns false'. Refute it at one input. -/
def messageEncodesWrong : ChangeSpec := { name := "messageEncodes", fn := fun _ => fun
  | [d] => { results := [.lit (.bool false)], args := [d] }
  | _ => none }
def MessageEncodesWrongFalsely : Prop := messageEncodesRow.holds Tryd.pinned (OpenSpec.ofChange messageEncodesWrong)

/-- 'linesidelaw06.MessageDecodes': WHATEVER THE INPUT: true; the input reads as it did. -/
def messageDecodesSpec : ChangeSpec := { name := "messageDecodes", fn := fun _ => fun
  | [d] => { results := [.lit (.bool true)], args := [d] }
  | _ => none }
def messageDecodesRow : OpenClaim := { program := "ytiebjnibmomcjaadoor", sum := "fd57a41ce4262db75ad94f7d88657cf1aec897d264d541e357fbf3e58e9138b8", func := "lineside/linesidelaw06.MessageDecodes", spec := "messageDecodes", unfollowed := true, recurses := true, named := ["lineside/vars.widths"], apart := false, laid := [("lineside/vars.widths", laid_lineside_vars_widths)] }
def MessageDecodesSaid : Prop := messageDecodesRow.holds Tryd.pinned (OpenSpec.ofChange messageDecodesSpec)

/-- ITS FALSE NEIGHBOUR: 'it returns false'. Refute it at one input. -/
def messageDecodesWrong : ChangeSpec := { name := "messageDecodes", fn := fun _ => fun
  | [d] => { results := [.lit (.bool false)], args := [d] }
  | _ => none }
def MessageDecodesWrongFalsely : Prop := messageDecodesRow.holds Tryd.pinned (OpenSpec.ofChange messageDecodesWrong)

/-- 'linesidelaw06.MessageBack': WHATEVER THE INPUT: true; the input reads as it did. -/
def messageBackSpec : ChangeSpec := { name := "messageBack", fn := fun _ => fun
  | [d] => { results := [.lit (.bool true)], args := [d] }
  | _ => none }
def messageBackRow : OpenClaim := { program := "ytiebjnibmomcjaadoor", sum := "fd57a41ce4262db75ad94f7d88657cf1aec897d264d541e357fbf3e58e9138b8", func := "lineside/linesidelaw06.MessageBack", spec := "messageBack", unfollowed := true, recurses := true, named := ["lineside/vars.widths"], apart := false, laid := [("lineside/vars.widths", laid_lineside_vars_widths)] }
def MessageBackSaid : Prop := messageBackRow.holds Tryd.pinned (OpenSpec.ofChange messageBackSpec)

/-- ITS FALSE NEIGHBOUR: 'it returns false'. Refute it at one input. -/
def messageBackWrong : ChangeSpec := { name := "messageBack", fn := fun _ => fun
  | [d] => { results := [.lit (.bool false)], args := [d] }
  | _ => none }
def MessageBackWrongFalsely : Prop := messageBackRow.holds Tryd.pinned (OpenSpec.ofChange messageBackWrong)

/-- 'linesidelaw06.MessageOnly': WHATEVER THE INPUT: true; the input reads as it did. -/
def messageOnlySpec : ChangeSpec := { name := "messageOnly", fn := fun _ => fun
  | [d] => { results := [.lit (.bool true)], args := [d] }
  | _ => none }
def messageOnlyRow : OpenClaim := { program := "ytiebjnibmomcjaadoor", sum := "fd57a41ce4262db75ad94f7d88657cf1aec897d264d541e357fbf3e58e9138b8", func := "lineside/linesidelaw06.MessageOnly", spec := "messageOnly", unfollowed := true, recurses := true, named := ["lineside/vars.widths"], apart := false, laid := [("lineside/vars.widths", laid_lineside_vars_widths)] }
def MessageOnlySaid : Prop := messageOnlyRow.holds Tryd.pinned (OpenSpec.ofChange messageOnlySpec)

/-- ITS FALSE NEIGHBOUR: 'it returns false'. Refute it at one input. -/
def messageOnlyWrong : ChangeSpec := { name := "messageOnly", fn := fun _ => fun
  | [d] => { results := [.lit (.bool false)], args := [d] }
  | _ => none }
def MessageOnlyWrongFalsely : Prop := messageOnlyRow.holds Tryd.pinned (OpenSpec.ofChange messageOnlyWrong)

/-- 'linesidelaw06.MessageCut': WHATEVER THE INPUT: true; the input reads as it did. -/
def messageCutSpec : ChangeSpec := { name := "messageCut", fn := fun _ => fun
  | [d1, d2, d3] => { results := [.lit (.bool true)], args := [d1, d2, d3] }
  | _ => none }
def messageCutRow : OpenClaim := { program := "ytiebjnibmomcjaadoor", sum := "fd57a41ce4262db75ad94f7d88657cf1aec897d264d541e357fbf3e58e9138b8", func := "lineside/linesidelaw06.MessageCut", spec := "messageCut", unfollowed := true, recurses := true, named := ["lineside/vars.widths"], apart := false, laid := [("lineside/vars.widths", laid_lineside_vars_widths)] }
def MessageCutSaid : Prop := messageCutRow.holds Tryd.pinned (OpenSpec.ofChange messageCutSpec)

/-- ITS FALSE NEIGHBOUR: 'it returns false'. Refute it at one input. -/
def messageCutWrong : ChangeSpec := { name := "messageCut", fn := fun _ => fun
  | [d1, d2, d3] => { results := [.lit (.bool false)], args := [d1, d2, d3] }
  | _ => none }
def MessageCutWrongFalsely : Prop := messageCutRow.holds Tryd.pinned (OpenSpec.ofChange messageCutWrong)

/-- 'linesidelaw06.MessagePackets': WHATEVER THE INPUT: true; the input reads as it did. -/
def messagePacketsSpec : ChangeSpec := { name := "messagePackets", fn := fun _ => fun
  | [d1, d2, d3] => { results := [.lit (.bool true)], args := [d1, d2, d3] }
  | _ => none }
def messagePacketsRow : OpenClaim := { program := "ytiebjnibmomcjaadoor", sum := "fd57a41ce4262db75ad94f7d88657cf1aec897d264d541e357fbf3e58e9138b8", func := "lineside/linesidelaw06.MessagePackets", spec := "messagePackets", unfollowed := true, recurses := true, named := ["lineside/vars.widths"], apart := false, laid := [("lineside/vars.widths", laid_lineside_vars_widths)] }
def MessagePacketsSaid : Prop := messagePacketsRow.holds Tryd.pinned (OpenSpec.ofChange messagePacketsSpec)

/-- ITS FALSE NEIGHBOUR: 'it returns false'. Refute it at one input. -/
def messagePacketsWrong : ChangeSpec := { name := "messagePackets", fn := fun _ => fun
  | [d1, d2, d3] => { results := [.lit (.bool false)], args := [d1, d2, d3] }
  | _ => none }
def MessagePacketsWrongFalsely : Prop := messagePacketsRow.holds Tryd.pinned (OpenSpec.ofChange messagePacketsWrong)

/-- 'linesidelaw06.MessageSides': WHATEVER THE INPUT: true; the input reads as it did. -/
def messageSidesSpec : ChangeSpec := { name := "messageSides", fn := fun _ => fun
  | [d] => { results := [.lit (.bool true)], args := [d] }
  | _ => none }
def messageSidesRow : OpenClaim := { program := "ytiebjnibmomcjaadoor", sum := "fd57a41ce4262db75ad94f7d88657cf1aec897d264d541e357fbf3e58e9138b8", func := "lineside/linesidelaw06.MessageSides", spec := "messageSides", unfollowed := true, recurses := true, named := ["lineside/vars.widths"], apart := false, laid := [("lineside/vars.widths", laid_lineside_vars_widths)] }
def MessageSidesSaid : Prop := messageSidesRow.holds Tryd.pinned (OpenSpec.ofChange messageSidesSpec)

/-- ITS FALSE NEIGHBOUR: 'it returns false'. Refute it at one input. -/
def messageSidesWrong : ChangeSpec := { name := "messageSides", fn := fun _ => fun
  | [d] => { results := [.lit (.bool false)], args := [d] }
  | _ => none }
def MessageSidesWrongFalsely : Prop := messageSidesRow.holds Tryd.pinned (OpenSpec.ofChange messageSidesWrong)

/- THE SECOND FORM. 'bulk': how many values and letters a reading holds, each counted each time it is reached (what is shared counts as often as it is met; a slice's spare places count too). A statement '..UptoSaid' is the law's where the arguments, and the package variables that the reading takes, are together of bulk at most 1048576: NARROWER than '..Said'. Prove '..Said' where nothing that the law and all that it calls make is longer than what came in: it says more and counts as full. Else prove '..UptoSaid'. A law counts once. -/
mutual
def uptoBulk {H : Type} : DataW H → Nat
  | .lit (.string bytes) => bytes.length + 1
  | .lit _ => 1
  | .nil => 1
  | .ptr d => uptoBulk d + 1
  | .slice elems spare => uptoBulkAll elems + uptoBulkAll spare + 1
  | .agg parts => uptoBulkAll parts + 1
  | .iface _ d => uptoBulk d + 1
  | .map entries => uptoBulkEntries entries + 1
  | .held _ => 1
def uptoBulkAll {H : Type} : List (DataW H) → Nat
  | [] => 0
  | d :: r => uptoBulk d + uptoBulkAll r
def uptoBulkEntries {H : Type} : List (Lit × DataW H) → Nat
  | [] => 0
  | x :: r => uptoBulkEntry x + uptoBulkEntries r
def uptoBulkEntry {H : Type} : Lit × DataW H → Nat
  | (.string bytes, d) => bytes.length + uptoBulk d + 1
  | (_, d) => uptoBulk d + 1
 end
def uptoSmall : (H : Type) → List (DataW H) → Bool := fun _ ds => decide (uptoBulkAll ds ≤ 1048576)
def OpenSpec.upto (s : _root_.Go.ChangeSpec) : _root_.Go.OpenSpec := { _root_.Go.OpenSpec.ofChange s with cond := some uptoSmall }

/-- 'linesidelaw06.MessageEncodes', WHERE WHAT IT READS IS OF BULK AT MOST 1048576: true; the input reads as it did. -/
def messageEncodesUptoRow : OpenClaim := { program := "ytiebjnibmomcjaadoor", sum := "fd57a41ce4262db75ad94f7d88657cf1aec897d264d541e357fbf3e58e9138b8", func := "lineside/linesidelaw06.MessageEncodes", spec := "messageEncodes", unfollowed := true, recurses := true, named := ["lineside/vars.widths"], apart := false, laid := [("lineside/vars.widths", laid_lineside_vars_widths)], narrowed := true }
def MessageEncodesUptoSaid : Prop := messageEncodesUptoRow.holds Tryd.pinned (OpenSpec.upto messageEncodesSpec)

/-- 'linesidelaw06.MessageDecodes', WHERE WHAT IT READS IS OF BULK AT MOST 1048576: true; the input reads as it did. -/
def messageDecodesUptoRow : OpenClaim := { program := "ytiebjnibmomcjaadoor", sum := "fd57a41ce4262db75ad94f7d88657cf1aec897d264d541e357fbf3e58e9138b8", func := "lineside/linesidelaw06.MessageDecodes", spec := "messageDecodes", unfollowed := true, recurses := true, named := ["lineside/vars.widths"], apart := false, laid := [("lineside/vars.widths", laid_lineside_vars_widths)], narrowed := true }
def MessageDecodesUptoSaid : Prop := messageDecodesUptoRow.holds Tryd.pinned (OpenSpec.upto messageDecodesSpec)

/-- 'linesidelaw06.MessageBack', WHERE WHAT IT READS IS OF BULK AT MOST 1048576: true; the input reads as it did. -/
def messageBackUptoRow : OpenClaim := { program := "ytiebjnibmomcjaadoor", sum := "fd57a41ce4262db75ad94f7d88657cf1aec897d264d541e357fbf3e58e9138b8", func := "lineside/linesidelaw06.MessageBack", spec := "messageBack", unfollowed := true, recurses := true, named := ["lineside/vars.widths"], apart := false, laid := [("lineside/vars.widths", laid_lineside_vars_widths)], narrowed := true }
def MessageBackUptoSaid : Prop := messageBackUptoRow.holds Tryd.pinned (OpenSpec.upto messageBackSpec)

/-- 'linesidelaw06.MessageOnly', WHERE WHAT IT READS IS OF BULK AT MOST 1048576: true; the input reads as it did. -/
def messageOnlyUptoRow : OpenClaim := { program := "ytiebjnibmomcjaadoor", sum := "fd57a41ce4262db75ad94f7d88657cf1aec897d264d541e357fbf3e58e9138b8", func := "lineside/linesidelaw06.MessageOnly", spec := "messageOnly", unfollowed := true, recurses := true, named := ["lineside/vars.widths"], apart := false, laid := [("lineside/vars.widths", laid_lineside_vars_widths)], narrowed := true }
def MessageOnlyUptoSaid : Prop := messageOnlyUptoRow.holds Tryd.pinned (OpenSpec.upto messageOnlySpec)

/-- 'linesidelaw06.MessageCut', WHERE WHAT IT READS IS OF BULK AT MOST 1048576: true; the input reads as it did. -/
def messageCutUptoRow : OpenClaim := { program := "ytiebjnibmomcjaadoor", sum := "fd57a41ce4262db75ad94f7d88657cf1aec897d264d541e357fbf3e58e9138b8", func := "lineside/linesidelaw06.MessageCut", spec := "messageCut", unfollowed := true, recurses := true, named := ["lineside/vars.widths"], apart := false, laid := [("lineside/vars.widths", laid_lineside_vars_widths)], narrowed := true }
def MessageCutUptoSaid : Prop := messageCutUptoRow.holds Tryd.pinned (OpenSpec.upto messageCutSpec)

/-- 'linesidelaw06.MessagePackets', WHERE WHAT IT READS IS OF BULK AT MOST 1048576: true; the input reads as it did. -/
def messagePacketsUptoRow : OpenClaim := { program := "ytiebjnibmomcjaadoor", sum := "fd57a41ce4262db75ad94f7d88657cf1aec897d264d541e357fbf3e58e9138b8", func := "lineside/linesidelaw06.MessagePackets", spec := "messagePackets", unfollowed := true, recurses := true, named := ["lineside/vars.widths"], apart := false, laid := [("lineside/vars.widths", laid_lineside_vars_widths)], narrowed := true }
def MessagePacketsUptoSaid : Prop := messagePacketsUptoRow.holds Tryd.pinned (OpenSpec.upto messagePacketsSpec)

/-- 'linesidelaw06.MessageSides', WHERE WHAT IT READS IS OF BULK AT MOST 1048576: true; the input reads as it did. -/
def messageSidesUptoRow : OpenClaim := { program := "ytiebjnibmomcjaadoor", sum := "fd57a41ce4262db75ad94f7d88657cf1aec897d264d541e357fbf3e58e9138b8", func := "lineside/linesidelaw06.MessageSides", spec := "messageSides", unfollowed := true, recurses := true, named := ["lineside/vars.widths"], apart := false, laid := [("lineside/vars.widths", laid_lineside_vars_widths)], narrowed := true }
def MessageSidesUptoSaid : Prop := messageSidesUptoRow.holds Tryd.pinned (OpenSpec.upto messageSidesSpec)

end Rows
end Go.Proofs.YtiebjnibmomcjaaDoor
