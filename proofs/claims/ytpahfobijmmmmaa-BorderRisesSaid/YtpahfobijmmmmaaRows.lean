/-
  No cell of these rows narrows 'for every input' (looked for: loops, veiled, ifaces, maps, wideKeys, modest, calm, conditions, laid).
  DERIVED. THE GIVEN ROWS OF THIS SEAT. 5 by the template 'for every input the law returns true; each argument reads behind the call as it read before'; 0 by the template 'total and deterministic' (their statements: YtpahfobijmmmmaaTotals.lean).
  GIVEN WITH THE SEED: the statements are not yours to turn. If you find one false, say at which input.
  Laid BY PROGRAM, IN A SANDBOX (cutbox-rows.mjs): the forced cells as the released guide's own fill.sh prints them over the translation 190feabd32fa6276… (all of the seat's roots in one cut). By AI agents, Wed Nov 11 2026. No macro, syntax, notation, axiom, sorry.
-/
import Derived.Test.YtpahfobijmmmmaaChecked
import GoSem.Claim
import GoSem.ClaimJoined
import GoSem.ClaimMapViews
import Derived.JoinedTies
import Derived.KernelRfl
namespace Go.Proofs.Ytpahfobijmmmmaa
/- THE CELL 'sum', in the pinned program and in every row, IS THE sha256 OF THE DUMP (.gsa) THAT YtpahfobijmmmmaaProg.lean LOADS. Nothing in Lean hashes anything: it is a label: what it is worth is what the hold of that sum in a sandbox is worth. -/
noncomputable def Try.pinned : Pinned := { name := "ytpahfobijmmmmaa", sum := "190feabd32fa62761ae1659c6af5b50656768809f93b22c1aca1f4642eb2212b", checked := Try.checked }
namespace Rows
def none {H : Type} : Left H := { results := [], args := [] }

/-- 'linesidelaw20.BorderNotes': WHATEVER THE INPUT: true; the input reads as it did. -/
def borderNotesSpec : ChangeSpec := { name := "borderNotes", fn := fun _ => fun
  | [d] => { results := [.lit (.bool true)], args := [d] }
  | _ => none }
def borderNotesRow : OpenClaim := { program := "ytpahfobijmmmmaa", sum := "190feabd32fa62761ae1659c6af5b50656768809f93b22c1aca1f4642eb2212b", func := "lineside/linesidelaw20.BorderNotes", spec := "borderNotes", unfollowed := true, recurses := true, apart := false }
def BorderNotesSaid : Prop := borderNotesRow.holds Try.pinned (OpenSpec.ofChange borderNotesSpec)

/-- ITS FALSE NEIGHBOUR: 'it returns false'. Refute it at one input. -/
def borderNotesWrong : ChangeSpec := { name := "borderNotes", fn := fun _ => fun
  | [d] => { results := [.lit (.bool false)], args := [d] }
  | _ => none }
def BorderNotesWrongFalsely : Prop := borderNotesRow.holds Try.pinned (OpenSpec.ofChange borderNotesWrong)

/-- 'linesidelaw20.BorderDecodes': WHATEVER THE INPUT: true; the input reads as it did. -/
def borderDecodesSpec : ChangeSpec := { name := "borderDecodes", fn := fun _ => fun
  | [d] => { results := [.lit (.bool true)], args := [d] }
  | _ => none }
def borderDecodesRow : OpenClaim := { program := "ytpahfobijmmmmaa", sum := "190feabd32fa62761ae1659c6af5b50656768809f93b22c1aca1f4642eb2212b", func := "lineside/linesidelaw20.BorderDecodes", spec := "borderDecodes", unfollowed := true, recurses := true, apart := false }
def BorderDecodesSaid : Prop := borderDecodesRow.holds Try.pinned (OpenSpec.ofChange borderDecodesSpec)

/-- ITS FALSE NEIGHBOUR: 'it returns false'. Refute it at one input. -/
def borderDecodesWrong : ChangeSpec := { name := "borderDecodes", fn := fun _ => fun
  | [d] => { results := [.lit (.bool false)], args := [d] }
  | _ => none }
def BorderDecodesWrongFalsely : Prop := borderDecodesRow.holds Try.pinned (OpenSpec.ofChange borderDecodesWrong)

/-- 'linesidelaw20.BorderBack': WHATEVER THE INPUT: true; the input reads as it did. -/
def borderBackSpec : ChangeSpec := { name := "borderBack", fn := fun _ => fun
  | [d] => { results := [.lit (.bool true)], args := [d] }
  | _ => none }
def borderBackRow : OpenClaim := { program := "ytpahfobijmmmmaa", sum := "190feabd32fa62761ae1659c6af5b50656768809f93b22c1aca1f4642eb2212b", func := "lineside/linesidelaw20.BorderBack", spec := "borderBack", unfollowed := true, recurses := true, apart := false }
def BorderBackSaid : Prop := borderBackRow.holds Try.pinned (OpenSpec.ofChange borderBackSpec)

/-- ITS FALSE NEIGHBOUR: 'it returns false'. Refute it at one input. -/
def borderBackWrong : ChangeSpec := { name := "borderBack", fn := fun _ => fun
  | [d] => { results := [.lit (.bool false)], args := [d] }
  | _ => none }
def BorderBackWrongFalsely : Prop := borderBackRow.holds Try.pinned (OpenSpec.ofChange borderBackWrong)

/-- 'linesidelaw20.BorderOnly': WHATEVER THE INPUT: true; the input reads as it did. -/
def borderOnlySpec : ChangeSpec := { name := "borderOnly", fn := fun _ => fun
  | [d] => { results := [.lit (.bool true)], args := [d] }
  | _ => none }
def borderOnlyRow : OpenClaim := { program := "ytpahfobijmmmmaa", sum := "190feabd32fa62761ae1659c6af5b50656768809f93b22c1aca1f4642eb2212b", func := "lineside/linesidelaw20.BorderOnly", spec := "borderOnly", unfollowed := true, recurses := true, apart := false }
def BorderOnlySaid : Prop := borderOnlyRow.holds Try.pinned (OpenSpec.ofChange borderOnlySpec)

/-- ITS FALSE NEIGHBOUR: 'it returns false'. Refute it at one input. -/
def borderOnlyWrong : ChangeSpec := { name := "borderOnly", fn := fun _ => fun
  | [d] => { results := [.lit (.bool false)], args := [d] }
  | _ => none }
def BorderOnlyWrongFalsely : Prop := borderOnlyRow.holds Try.pinned (OpenSpec.ofChange borderOnlyWrong)

/-- 'linesidelaw20.BorderRises': WHATEVER THE INPUT: true; the input reads as it did. -/
def borderRisesSpec : ChangeSpec := { name := "borderRises", fn := fun _ => fun
  | [d1, d2] => { results := [.lit (.bool true)], args := [d1, d2] }
  | _ => none }
def borderRisesRow : OpenClaim := { program := "ytpahfobijmmmmaa", sum := "190feabd32fa62761ae1659c6af5b50656768809f93b22c1aca1f4642eb2212b", func := "lineside/linesidelaw20.BorderRises", spec := "borderRises", unfollowed := true, recurses := true, apart := false }
def BorderRisesSaid : Prop := borderRisesRow.holds Try.pinned (OpenSpec.ofChange borderRisesSpec)

/-- ITS FALSE NEIGHBOUR: 'it returns false'. Refute it at one input. -/
def borderRisesWrong : ChangeSpec := { name := "borderRises", fn := fun _ => fun
  | [d1, d2] => { results := [.lit (.bool false)], args := [d1, d2] }
  | _ => none }
def BorderRisesWrongFalsely : Prop := borderRisesRow.holds Try.pinned (OpenSpec.ofChange borderRisesWrong)

/- THE SECOND FORM. 'bulk': how many values and letters a reading holds, each counted each time it is reached (what is shared counts as often as it is met; a slice's spare places count too). A statement '..UptoSaid' is the law's where the arguments, and the package variables that the reading takes, are together of bulk at most 1048576: NARROWER than '..Said'. Prove '..Said' where nothing that the law and all that it calls make is longer than what came in: it says more and counts as full. Else prove '..UptoSaid'. A law counts once. -/
mutual
def uptoBulk {H : Type} : DataW H → Nat
  | .lit (.string bytes) => bytes.length + 1
  | .lit _ => 1
  | .nil => 1
  | .ptr d => uptoBulk d + 1
  | .slice elems spare => uptoBulkAll elems + uptoBulkAll spare + 1
  | .agg parts => uptoBulkAll parts + 1
  | .iface _ d => uptoBulk d + 1
  | .map entries => uptoBulkEntries entries + 1
  | .held _ => 1
def uptoBulkAll {H : Type} : List (DataW H) → Nat
  | [] => 0
  | d :: r => uptoBulk d + uptoBulkAll r
def uptoBulkEntries {H : Type} : List (Lit × DataW H) → Nat
  | [] => 0
  | x :: r => uptoBulkEntry x + uptoBulkEntries r
def uptoBulkEntry {H : Type} : Lit × DataW H → Nat
  | (.string bytes, d) => bytes.length + uptoBulk d + 1
  | (_, d) => uptoBulk d + 1
 end
def uptoSmall : (H : Type) → List (DataW H) → Bool := fun _ ds => decide (uptoBulkAll ds ≤ 1048576)
def OpenSpec.upto (s : _root_.Go.ChangeSpec) : _root_.Go.OpenSpec := { _root_.Go.OpenSpec.ofChange s with cond := some uptoSmall }

/-- 'linesidelaw20.BorderNotes', WHERE WHAT IT READS IS OF BULK AT MOST 1048576: true; the input reads as it did. -/
def borderNotesUptoRow : OpenClaim := { program := "ytpahfobijmmmmaa", sum := "190feabd32fa62761ae1659c6af5b50656768809f93b22c1aca1f4642eb2212b", func := "lineside/linesidelaw20.BorderNotes", spec := "borderNotes", unfollowed := true, recurses := true, apart := false, narrowed := true }
def BorderNotesUptoSaid : Prop := borderNotesUptoRow.holds Try.pinned (OpenSpec.upto borderNotesSpec)

/-- 'linesidelaw20.BorderDecodes', WHERE WHAT IT READS IS OF BULK AT MOST 1048576: true; the input reads as it did. -/
def borderDecodesUptoRow : OpenClaim := { program := "ytpahfobijmmmmaa", sum := "190feabd32fa62761ae1659c6af5b50656768809f93b22c1aca1f4642eb2212b", func := "lineside/linesidelaw20.BorderDecodes", spec := "borderDecodes", unfollowed := true, recurses := true, apart := false, narrowed := true }
def BorderDecodesUptoSaid : Prop := borderDecodesUptoRow.holds Try.pinned (OpenSpec.upto borderDecodesSpec)

/-- 'linesidelaw20.BorderBack', WHERE WHAT IT READS IS OF BULK AT MOST 1048576: true; the input reads as it did. -/
def borderBackUptoRow : OpenClaim := { program := "ytpahfobijmmmmaa", sum := "190feabd32fa62761ae1659c6af5b50656768809f93b22c1aca1f4642eb2212b", func := "lineside/linesidelaw20.BorderBack", spec := "borderBack", unfollowed := true, recurses := true, apart := false, narrowed := true }
def BorderBackUptoSaid : Prop := borderBackUptoRow.holds Try.pinned (OpenSpec.upto borderBackSpec)

/-- 'linesidelaw20.BorderOnly', WHERE WHAT IT READS IS OF BULK AT MOST 1048576: true; the input reads as it did. -/
def borderOnlyUptoRow : OpenClaim := { program := "ytpahfobijmmmmaa", sum := "190feabd32fa62761ae1659c6af5b50656768809f93b22c1aca1f4642eb2212b", func := "lineside/linesidelaw20.BorderOnly", spec := "borderOnly", unfollowed := true, recurses := true, apart := false, narrowed := true }
def BorderOnlyUptoSaid : Prop := borderOnlyUptoRow.holds Try.pinned (OpenSpec.upto borderOnlySpec)

/-- 'linesidelaw20.BorderRises', WHERE WHAT IT READS IS OF BULK AT MOST 1048576: true; the input reads as it did. -/
def borderRisesUptoRow : OpenClaim := { program := "ytpahfobijmmmmaa", sum := "190feabd32fa62761ae1659c6af5b50656768809f93b22c1aca1f4642eb2212b", func := "lineside/linesidelaw20.BorderRises", spec := "borderRises", unfollowed := true, recurses := true, apart := false, narrowed := true }
def BorderRisesUptoSaid : Prop := borderRisesUptoRow.holds Try.pinned (OpenSpec.upto borderRisesSpec)

end Rows
end Go.Proofs.Ytpahfobijmmmmaa
