/-
  No cell of these rows narrows 'for every input' (looked for: loops, veiled, ifaces, maps, wideKeys, modest, calm, conditions, laid).
  DERIVED. THE GIVEN ROWS OF THIS SEAT. 7 by the template 'for every input the law returns true; each argument reads behind the call as it read before'; 0 by the template 'total and deterministic' (their statements: YtfkmcohefppanaaTotals.lean).
  GIVEN WITH THE SEED: the statements are not yours to turn. If you find one false, say at which input.
  Laid BY PROGRAM, IN A SANDBOX (cutbox-rows.mjs): the forced cells as the released guide's own fill.sh prints them over the translation 4ffc16f58db3ec9e… (all of the seat's roots in one cut). By AI agents, Wed Nov 11 2026. No macro, syntax, notation, axiom, sorry.
-/
import Derived.Test.YtfkmcohefppanaaChecked
import GoSem.Claim
import GoSem.ClaimJoined
import GoSem.ClaimMapViews
import Derived.JoinedTies
import Derived.KernelRfl
namespace Go.Proofs.Ytfkmcohefppanaa
/- THE CELL 'sum', in the pinned program and in every row, IS THE sha256 OF THE DUMP (.gsa) THAT YtfkmcohefppanaaProg.lean LOADS. Nothing in Lean hashes anything: it is a label: what it is worth is what the hold of that sum in a sandbox is worth. -/
noncomputable def Try.pinned : Pinned := { name := "ytfkmcohefppanaa", sum := "4ffc16f58db3ec9e8e540fe150b99376a00b28b2d54ce920b17cace84c1a977f", checked := Try.checked }
namespace Rows
def none {H : Type} : Left H := { results := [], args := [] }

/-- 'linesidelaw01.BitsWrites': WHATEVER THE INPUT: true; the input reads as it did. -/
def bitsWritesSpec : ChangeSpec := { name := "bitsWrites", fn := fun _ => fun
  | [d] => { results := [.lit (.bool true)], args := [d] }
  | _ => none }
def bitsWritesRow : OpenClaim := { program := "ytfkmcohefppanaa", sum := "4ffc16f58db3ec9e8e540fe150b99376a00b28b2d54ce920b17cace84c1a977f", func := "lineside/linesidelaw01.BitsWrites", spec := "bitsWrites", apart := false }
def BitsWritesSaid : Prop := bitsWritesRow.holds Try.pinned (OpenSpec.ofChange bitsWritesSpec)

/-- ITS FALSE NEIGHBOUR: 'it returns false'. Refute it at one input. -/
def bitsWritesWrong : ChangeSpec := { name := "bitsWrites", fn := fun _ => fun
  | [d] => { results := [.lit (.bool false)], args := [d] }
  | _ => none }
def BitsWritesWrongFalsely : Prop := bitsWritesRow.holds Try.pinned (OpenSpec.ofChange bitsWritesWrong)

/-- 'linesidelaw01.BitsPieces': WHATEVER THE INPUT: true; the input reads as it did. -/
def bitsPiecesSpec : ChangeSpec := { name := "bitsPieces", fn := fun _ => fun
  | [d1, d2, d3, d4] => { results := [.lit (.bool true)], args := [d1, d2, d3, d4] }
  | _ => none }
def bitsPiecesRow : OpenClaim := { program := "ytfkmcohefppanaa", sum := "4ffc16f58db3ec9e8e540fe150b99376a00b28b2d54ce920b17cace84c1a977f", func := "lineside/linesidelaw01.BitsPieces", spec := "bitsPieces", apart := false }
def BitsPiecesSaid : Prop := bitsPiecesRow.holds Try.pinned (OpenSpec.ofChange bitsPiecesSpec)

/-- ITS FALSE NEIGHBOUR: 'it returns false'. Refute it at one input. -/
def bitsPiecesWrong : ChangeSpec := { name := "bitsPieces", fn := fun _ => fun
  | [d1, d2, d3, d4] => { results := [.lit (.bool false)], args := [d1, d2, d3, d4] }
  | _ => none }
def BitsPiecesWrongFalsely : Prop := bitsPiecesRow.holds Try.pinned (OpenSpec.ofChange bitsPiecesWrong)

/-- 'linesidelaw01.BitsRefuses': WHATEVER THE INPUT: true; the input reads as it did. -/
def bitsRefusesSpec : ChangeSpec := { name := "bitsRefuses", fn := fun _ => fun
  | [d1, d2] => { results := [.lit (.bool true)], args := [d1, d2] }
  | _ => none }
def bitsRefusesRow : OpenClaim := { program := "ytfkmcohefppanaa", sum := "4ffc16f58db3ec9e8e540fe150b99376a00b28b2d54ce920b17cace84c1a977f", func := "lineside/linesidelaw01.BitsRefuses", spec := "bitsRefuses", apart := false }
def BitsRefusesSaid : Prop := bitsRefusesRow.holds Try.pinned (OpenSpec.ofChange bitsRefusesSpec)

/-- ITS FALSE NEIGHBOUR: 'it returns false'. Refute it at one input. -/
def bitsRefusesWrong : ChangeSpec := { name := "bitsRefuses", fn := fun _ => fun
  | [d1, d2] => { results := [.lit (.bool false)], args := [d1, d2] }
  | _ => none }
def BitsRefusesWrongFalsely : Prop := bitsRefusesRow.holds Try.pinned (OpenSpec.ofChange bitsRefusesWrong)

/-- 'linesidelaw01.BitsFull': WHATEVER THE INPUT: true; the input reads as it did. -/
def bitsFullSpec : ChangeSpec := { name := "bitsFull", fn := fun _ => fun
  | [d1, d2] => { results := [.lit (.bool true)], args := [d1, d2] }
  | _ => none }
def bitsFullRow : OpenClaim := { program := "ytfkmcohefppanaa", sum := "4ffc16f58db3ec9e8e540fe150b99376a00b28b2d54ce920b17cace84c1a977f", func := "lineside/linesidelaw01.BitsFull", spec := "bitsFull", apart := false }
def BitsFullSaid : Prop := bitsFullRow.holds Try.pinned (OpenSpec.ofChange bitsFullSpec)

/-- ITS FALSE NEIGHBOUR: 'it returns false'. Refute it at one input. -/
def bitsFullWrong : ChangeSpec := { name := "bitsFull", fn := fun _ => fun
  | [d1, d2] => { results := [.lit (.bool false)], args := [d1, d2] }
  | _ => none }
def BitsFullWrongFalsely : Prop := bitsFullRow.holds Try.pinned (OpenSpec.ofChange bitsFullWrong)

/-- 'linesidelaw01.BitsReads': WHATEVER THE INPUT: true; the input reads as it did. -/
def bitsReadsSpec : ChangeSpec := { name := "bitsReads", fn := fun _ => fun
  | [d1, d2] => { results := [.lit (.bool true)], args := [d1, d2] }
  | _ => none }
def bitsReadsRow : OpenClaim := { program := "ytfkmcohefppanaa", sum := "4ffc16f58db3ec9e8e540fe150b99376a00b28b2d54ce920b17cace84c1a977f", func := "lineside/linesidelaw01.BitsReads", spec := "bitsReads", apart := false }
def BitsReadsSaid : Prop := bitsReadsRow.holds Try.pinned (OpenSpec.ofChange bitsReadsSpec)

/-- ITS FALSE NEIGHBOUR: 'it returns false'. Refute it at one input. -/
def bitsReadsWrong : ChangeSpec := { name := "bitsReads", fn := fun _ => fun
  | [d1, d2] => { results := [.lit (.bool false)], args := [d1, d2] }
  | _ => none }
def BitsReadsWrongFalsely : Prop := bitsReadsRow.holds Try.pinned (OpenSpec.ofChange bitsReadsWrong)

/-- 'linesidelaw01.BitsBack': WHATEVER THE INPUT: true; the input reads as it did. -/
def bitsBackSpec : ChangeSpec := { name := "bitsBack", fn := fun _ => fun
  | [d] => { results := [.lit (.bool true)], args := [d] }
  | _ => none }
def bitsBackRow : OpenClaim := { program := "ytfkmcohefppanaa", sum := "4ffc16f58db3ec9e8e540fe150b99376a00b28b2d54ce920b17cace84c1a977f", func := "lineside/linesidelaw01.BitsBack", spec := "bitsBack", apart := false }
def BitsBackSaid : Prop := bitsBackRow.holds Try.pinned (OpenSpec.ofChange bitsBackSpec)

/-- ITS FALSE NEIGHBOUR: 'it returns false'. Refute it at one input. -/
def bitsBackWrong : ChangeSpec := { name := "bitsBack", fn := fun _ => fun
  | [d] => { results := [.lit (.bool false)], args := [d] }
  | _ => none }
def BitsBackWrongFalsely : Prop := bitsBackRow.holds Try.pinned (OpenSpec.ofChange bitsBackWrong)

/-- 'linesidelaw01.BitsNone': WHATEVER THE INPUT: true; the input reads as it did. -/
def bitsNoneSpec : ChangeSpec := { name := "bitsNone", fn := fun _ => fun
  | [d] => { results := [.lit (.bool true)], args := [d] }
  | _ => none }
def bitsNoneRow : OpenClaim := { program := "ytfkmcohefppanaa", sum := "4ffc16f58db3ec9e8e540fe150b99376a00b28b2d54ce920b17cace84c1a977f", func := "lineside/linesidelaw01.BitsNone", spec := "bitsNone", apart := false }
def BitsNoneSaid : Prop := bitsNoneRow.holds Try.pinned (OpenSpec.ofChange bitsNoneSpec)

/-- ITS FALSE NEIGHBOUR: 'it returns false'. Refute it at one input. -/
def bitsNoneWrong : ChangeSpec := { name := "bitsNone", fn := fun _ => fun
  | [d] => { results := [.lit (.bool false)], args := [d] }
  | _ => none }
def BitsNoneWrongFalsely : Prop := bitsNoneRow.holds Try.pinned (OpenSpec.ofChange bitsNoneWrong)

/- THE SECOND FORM. 'bulk': how many values and letters a reading holds, each counted each time it is reached (what is shared counts as often as it is met; a slice's spare places count too). A statement '..UptoSaid' is the law's where the arguments, and the package variables that the reading takes, are together of bulk at most 1048576: NARROWER than '..Said'. Prove '..Said' where nothing that the law and all that it calls make is longer than what came in: it says more and counts as full. Else prove '..UptoSaid'. A law counts once. -/
mutual
def uptoBulk {H : Type} : DataW H → Nat
  | .lit (.string bytes) => bytes.length + 1
  | .lit _ => 1
  | .nil => 1
  | .ptr d => uptoBulk d + 1
  | .slice elems spare => uptoBulkAll elems + uptoBulkAll spare + 1
  | .agg parts => uptoBulkAll parts + 1
  | .iface _ d => uptoBulk d + 1
  | .map entries => uptoBulkEntries entries + 1
  | .held _ => 1
def uptoBulkAll {H : Type} : List (DataW H) → Nat
  | [] => 0
  | d :: r => uptoBulk d + uptoBulkAll r
def uptoBulkEntries {H : Type} : List (Lit × DataW H) → Nat
  | [] => 0
  | x :: r => uptoBulkEntry x + uptoBulkEntries r
def uptoBulkEntry {H : Type} : Lit × DataW H → Nat
  | (.string bytes, d) => bytes.length + uptoBulk d + 1
  | (_, d) => uptoBulk d + 1
 end
def uptoSmall : (H : Type) → List (DataW H) → Bool := fun _ ds => decide (uptoBulkAll ds ≤ 1048576)
def OpenSpec.upto (s : _root_.Go.ChangeSpec) : _root_.Go.OpenSpec := { _root_.Go.OpenSpec.ofChange s with cond := some uptoSmall }

/-- 'linesidelaw01.BitsWrites', WHERE WHAT IT READS IS OF BULK AT MOST 1048576: true; the input reads as it did. -/
def bitsWritesUptoRow : OpenClaim := { program := "ytfkmcohefppanaa", sum := "4ffc16f58db3ec9e8e540fe150b99376a00b28b2d54ce920b17cace84c1a977f", func := "lineside/linesidelaw01.BitsWrites", spec := "bitsWrites", apart := false, narrowed := true }
def BitsWritesUptoSaid : Prop := bitsWritesUptoRow.holds Try.pinned (OpenSpec.upto bitsWritesSpec)

/-- 'linesidelaw01.BitsPieces', WHERE WHAT IT READS IS OF BULK AT MOST 1048576: true; the input reads as it did. -/
def bitsPiecesUptoRow : OpenClaim := { program := "ytfkmcohefppanaa", sum := "4ffc16f58db3ec9e8e540fe150b99376a00b28b2d54ce920b17cace84c1a977f", func := "lineside/linesidelaw01.BitsPieces", spec := "bitsPieces", apart := false, narrowed := true }
def BitsPiecesUptoSaid : Prop := bitsPiecesUptoRow.holds Try.pinned (OpenSpec.upto bitsPiecesSpec)

/-- 'linesidelaw01.BitsRefuses', WHERE WHAT IT READS IS OF BULK AT MOST 1048576: true; the input reads as it did. -/
def bitsRefusesUptoRow : OpenClaim := { program := "ytfkmcohefppanaa", sum := "4ffc16f58db3ec9e8e540fe150b99376a00b28b2d54ce920b17cace84c1a977f", func := "lineside/linesidelaw01.BitsRefuses", spec := "bitsRefuses", apart := false, narrowed := true }
def BitsRefusesUptoSaid : Prop := bitsRefusesUptoRow.holds Try.pinned (OpenSpec.upto bitsRefusesSpec)

/-- 'linesidelaw01.BitsFull', WHERE WHAT IT READS IS OF BULK AT MOST 1048576: true; the input reads as it did. -/
def bitsFullUptoRow : OpenClaim := { program := "ytfkmcohefppanaa", sum := "4ffc16f58db3ec9e8e540fe150b99376a00b28b2d54ce920b17cace84c1a977f", func := "lineside/linesidelaw01.BitsFull", spec := "bitsFull", apart := false, narrowed := true }
def BitsFullUptoSaid : Prop := bitsFullUptoRow.holds Try.pinned (OpenSpec.upto bitsFullSpec)

/-- 'linesidelaw01.BitsReads', WHERE WHAT IT READS IS OF BULK AT MOST 1048576: true; the input reads as it did. -/
def bitsReadsUptoRow : OpenClaim := { program := "ytfkmcohefppanaa", sum := "4ffc16f58db3ec9e8e540fe150b99376a00b28b2d54ce920b17cace84c1a977f", func := "lineside/linesidelaw01.BitsReads", spec := "bitsReads", apart := false, narrowed := true }
def BitsReadsUptoSaid : Prop := bitsReadsUptoRow.holds Try.pinned (OpenSpec.upto bitsReadsSpec)

/-- 'linesidelaw01.BitsBack', WHERE WHAT IT READS IS OF BULK AT MOST 1048576: true; the input reads as it did. -/
def bitsBackUptoRow : OpenClaim := { program := "ytfkmcohefppanaa", sum := "4ffc16f58db3ec9e8e540fe150b99376a00b28b2d54ce920b17cace84c1a977f", func := "lineside/linesidelaw01.BitsBack", spec := "bitsBack", apart := false, narrowed := true }
def BitsBackUptoSaid : Prop := bitsBackUptoRow.holds Try.pinned (OpenSpec.upto bitsBackSpec)

/-- 'linesidelaw01.BitsNone', WHERE WHAT IT READS IS OF BULK AT MOST 1048576: true; the input reads as it did. -/
def bitsNoneUptoRow : OpenClaim := { program := "ytfkmcohefppanaa", sum := "4ffc16f58db3ec9e8e540fe150b99376a00b28b2d54ce920b17cace84c1a977f", func := "lineside/linesidelaw01.BitsNone", spec := "bitsNone", apart := false, narrowed := true }
def BitsNoneUptoSaid : Prop := bitsNoneUptoRow.holds Try.pinned (OpenSpec.upto bitsNoneSpec)

end Rows
end Go.Proofs.Ytfkmcohefppanaa
