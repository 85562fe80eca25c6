/-
  No cell of these rows narrows 'for every input' (looked for: loops, veiled, ifaces, maps, wideKeys, modest, calm, conditions, laid).
  DERIVED. THE GIVEN ROWS OF THIS SEAT. 11 by the template 'for every input the law returns true; each argument reads behind the call as it read before'; 0 by the template 'total and deterministic' (their statements: YtlcbajdckgcopaaTotals.lean).
  GIVEN WITH THE SEED: the statements are not yours to turn. If you find one false, say at which input.
  Laid BY PROGRAM, IN A SANDBOX (cutbox-rows.mjs): the forced cells as the released guide's own fill.sh prints them over the translation e339cba44cd8f63f… (all of the seat's roots in one cut). By AI agents, Wed Nov 11 2026. No macro, syntax, notation, axiom, sorry.
-/
import Derived.Test.YtlcbajdckgcopaaChecked
import GoSem.Claim
import GoSem.ClaimJoined
import GoSem.ClaimMapViews
import Derived.JoinedTies
import Derived.KernelRfl
namespace Go.Proofs.Ytlcbajdckgcopaa
/- THE CELL 'sum', in the pinned program and in every row, IS THE sha256 OF THE DUMP (.gsa) THAT YtlcbajdckgcopaaProg.lean LOADS. Nothing in Lean hashes anything: it is a label: what it is worth is what the hold of that sum in a sandbox is worth. -/
noncomputable def Try.pinned : Pinned := { name := "ytlcbajdckgcopaa", sum := "e339cba44cd8f63fccf4dd9112b522b326a943ed46b2b98651a13e1771ae5278", checked := Try.checked }
namespace Rows
def none {H : Type} : Left H := { results := [], args := [] }

/-- 'linesidelaw13.TopoChecks': WHATEVER THE INPUT: true; the input reads as it did. -/
def topoChecksSpec : ChangeSpec := { name := "topoChecks", fn := fun _ => fun
  | [d1, d2] => { results := [.lit (.bool true)], args := [d1, d2] }
  | _ => none }
def topoChecksRow : OpenClaim := { program := "ytlcbajdckgcopaa", sum := "e339cba44cd8f63fccf4dd9112b522b326a943ed46b2b98651a13e1771ae5278", func := "lineside/linesidelaw13.TopoChecks", spec := "topoChecks", unfollowed := true, recurses := true, plainKeys := false, apart := false }
def TopoChecksSaid : Prop := topoChecksRow.holds Try.pinned (OpenSpec.ofChange topoChecksSpec)

/-- ITS FALSE NEIGHBOUR: 'it returns false'. Refute it at one input. -/
def topoChecksWrong : ChangeSpec := { name := "topoChecks", fn := fun _ => fun
  | [d1, d2] => { results := [.lit (.bool false)], args := [d1, d2] }
  | _ => none }
def TopoChecksWrongFalsely : Prop := topoChecksRow.holds Try.pinned (OpenSpec.ofChange topoChecksWrong)

/-- 'linesidelaw13.TopoBack': WHATEVER THE INPUT: true; the input reads as it did. -/
def topoBackSpec : ChangeSpec := { name := "topoBack", fn := fun _ => fun
  | [d1, d2, d3] => { results := [.lit (.bool true)], args := [d1, d2, d3] }
  | _ => none }
def topoBackRow : OpenClaim := { program := "ytlcbajdckgcopaa", sum := "e339cba44cd8f63fccf4dd9112b522b326a943ed46b2b98651a13e1771ae5278", func := "lineside/linesidelaw13.TopoBack", spec := "topoBack", unfollowed := true, recurses := true, plainKeys := false, apart := false }
def TopoBackSaid : Prop := topoBackRow.holds Try.pinned (OpenSpec.ofChange topoBackSpec)

/-- ITS FALSE NEIGHBOUR: 'it returns false'. Refute it at one input. -/
def topoBackWrong : ChangeSpec := { name := "topoBack", fn := fun _ => fun
  | [d1, d2, d3] => { results := [.lit (.bool false)], args := [d1, d2, d3] }
  | _ => none }
def TopoBackWrongFalsely : Prop := topoBackRow.holds Try.pinned (OpenSpec.ofChange topoBackWrong)

/-- 'linesidelaw13.TopoRoutes': WHATEVER THE INPUT: true; the input reads as it did. -/
def topoRoutesSpec : ChangeSpec := { name := "topoRoutes", fn := fun _ => fun
  | [d] => { results := [.lit (.bool true)], args := [d] }
  | _ => none }
def topoRoutesRow : OpenClaim := { program := "ytlcbajdckgcopaa", sum := "e339cba44cd8f63fccf4dd9112b522b326a943ed46b2b98651a13e1771ae5278", func := "lineside/linesidelaw13.TopoRoutes", spec := "topoRoutes", unfollowed := true, recurses := true, plainKeys := false, apart := false }
def TopoRoutesSaid : Prop := topoRoutesRow.holds Try.pinned (OpenSpec.ofChange topoRoutesSpec)

/-- ITS FALSE NEIGHBOUR: 'it returns false'. Refute it at one input. -/
def topoRoutesWrong : ChangeSpec := { name := "topoRoutes", fn := fun _ => fun
  | [d] => { results := [.lit (.bool false)], args := [d] }
  | _ => none }
def TopoRoutesWrongFalsely : Prop := topoRoutesRow.holds Try.pinned (OpenSpec.ofChange topoRoutesWrong)

/-- 'linesidelaw13.TopoFinds': WHATEVER THE INPUT: true; the input reads as it did. -/
def topoFindsSpec : ChangeSpec := { name := "topoFinds", fn := fun _ => fun
  | [d1, d2] => { results := [.lit (.bool true)], args := [d1, d2] }
  | _ => none }
def topoFindsRow : OpenClaim := { program := "ytlcbajdckgcopaa", sum := "e339cba44cd8f63fccf4dd9112b522b326a943ed46b2b98651a13e1771ae5278", func := "lineside/linesidelaw13.TopoFinds", spec := "topoFinds", unfollowed := true, recurses := true, plainKeys := false, apart := false }
def TopoFindsSaid : Prop := topoFindsRow.holds Try.pinned (OpenSpec.ofChange topoFindsSpec)

/-- ITS FALSE NEIGHBOUR: 'it returns false'. Refute it at one input. -/
def topoFindsWrong : ChangeSpec := { name := "topoFinds", fn := fun _ => fun
  | [d1, d2] => { results := [.lit (.bool false)], args := [d1, d2] }
  | _ => none }
def TopoFindsWrongFalsely : Prop := topoFindsRow.holds Try.pinned (OpenSpec.ofChange topoFindsWrong)

/-- 'linesidelaw18.GrantHolds': WHATEVER THE INPUT: true; the input reads as it did. -/
def grantHoldsSpec : ChangeSpec := { name := "grantHolds", fn := fun _ => fun
  | [d1, d2] => { results := [.lit (.bool true)], args := [d1, d2] }
  | _ => none }
def grantHoldsRow : OpenClaim := { program := "ytlcbajdckgcopaa", sum := "e339cba44cd8f63fccf4dd9112b522b326a943ed46b2b98651a13e1771ae5278", func := "lineside/linesidelaw18.GrantHolds", spec := "grantHolds", unfollowed := true, recurses := true, plainKeys := false, apart := false }
def GrantHoldsSaid : Prop := grantHoldsRow.holds Try.pinned (OpenSpec.ofChange grantHoldsSpec)

/-- ITS FALSE NEIGHBOUR: 'it returns false'. Refute it at one input. -/
def grantHoldsWrong : ChangeSpec := { name := "grantHolds", fn := fun _ => fun
  | [d1, d2] => { results := [.lit (.bool false)], args := [d1, d2] }
  | _ => none }
def GrantHoldsWrongFalsely : Prop := grantHoldsRow.holds Try.pinned (OpenSpec.ofChange grantHoldsWrong)

/-- 'linesidelaw18.GrantOrder': WHATEVER THE INPUT: true; the input reads as it did. -/
def grantOrderSpec : ChangeSpec := { name := "grantOrder", fn := fun _ => fun
  | [d1, d2, d3, d4, d5, d6] => { results := [.lit (.bool true)], args := [d1, d2, d3, d4, d5, d6] }
  | _ => none }
def grantOrderRow : OpenClaim := { program := "ytlcbajdckgcopaa", sum := "e339cba44cd8f63fccf4dd9112b522b326a943ed46b2b98651a13e1771ae5278", func := "lineside/linesidelaw18.GrantOrder", spec := "grantOrder", unfollowed := true, recurses := true, plainKeys := false, apart := false }
def GrantOrderSaid : Prop := grantOrderRow.holds Try.pinned (OpenSpec.ofChange grantOrderSpec)

/-- ITS FALSE NEIGHBOUR: 'it returns false'. Refute it at one input. -/
def grantOrderWrong : ChangeSpec := { name := "grantOrder", fn := fun _ => fun
  | [d1, d2, d3, d4, d5, d6] => { results := [.lit (.bool false)], args := [d1, d2, d3, d4, d5, d6] }
  | _ => none }
def GrantOrderWrongFalsely : Prop := grantOrderRow.holds Try.pinned (OpenSpec.ofChange grantOrderWrong)

/-- 'linesidelaw15.SpanLong': WHATEVER THE INPUT: true; the input reads as it did. -/
def spanLongSpec : ChangeSpec := { name := "spanLong", fn := fun _ => fun
  | [d1, d2, d3, d4, d5] => { results := [.lit (.bool true)], args := [d1, d2, d3, d4, d5] }
  | _ => none }
def spanLongRow : OpenClaim := { program := "ytlcbajdckgcopaa", sum := "e339cba44cd8f63fccf4dd9112b522b326a943ed46b2b98651a13e1771ae5278", func := "lineside/linesidelaw15.SpanLong", spec := "spanLong", unfollowed := true, recurses := true, plainKeys := false, apart := false }
def SpanLongSaid : Prop := spanLongRow.holds Try.pinned (OpenSpec.ofChange spanLongSpec)

/-- ITS FALSE NEIGHBOUR: 'it returns false'. Refute it at one input. -/
def spanLongWrong : ChangeSpec := { name := "spanLong", fn := fun _ => fun
  | [d1, d2, d3, d4, d5] => { results := [.lit (.bool false)], args := [d1, d2, d3, d4, d5] }
  | _ => none }
def SpanLongWrongFalsely : Prop := spanLongRow.holds Try.pinned (OpenSpec.ofChange spanLongWrong)

/-- 'linesidelaw18.GrantFrees': WHATEVER THE INPUT: true; the input reads as it did. -/
def grantFreesSpec : ChangeSpec := { name := "grantFrees", fn := fun _ => fun
  | [d1, d2, d3] => { results := [.lit (.bool true)], args := [d1, d2, d3] }
  | _ => none }
def grantFreesRow : OpenClaim := { program := "ytlcbajdckgcopaa", sum := "e339cba44cd8f63fccf4dd9112b522b326a943ed46b2b98651a13e1771ae5278", func := "lineside/linesidelaw18.GrantFrees", spec := "grantFrees", unfollowed := true, recurses := true, plainKeys := false, apart := false }
def GrantFreesSaid : Prop := grantFreesRow.holds Try.pinned (OpenSpec.ofChange grantFreesSpec)

/-- ITS FALSE NEIGHBOUR: 'it returns false'. Refute it at one input. -/
def grantFreesWrong : ChangeSpec := { name := "grantFrees", fn := fun _ => fun
  | [d1, d2, d3] => { results := [.lit (.bool false)], args := [d1, d2, d3] }
  | _ => none }
def GrantFreesWrongFalsely : Prop := grantFreesRow.holds Try.pinned (OpenSpec.ofChange grantFreesWrong)

/-- 'linesidelaw18.GrantDoes': WHATEVER THE INPUT: true; the input reads as it did. -/
def grantDoesSpec : ChangeSpec := { name := "grantDoes", fn := fun _ => fun
  | [d1, d2] => { results := [.lit (.bool true)], args := [d1, d2] }
  | _ => none }
def grantDoesRow : OpenClaim := { program := "ytlcbajdckgcopaa", sum := "e339cba44cd8f63fccf4dd9112b522b326a943ed46b2b98651a13e1771ae5278", func := "lineside/linesidelaw18.GrantDoes", spec := "grantDoes", unfollowed := true, recurses := true, plainKeys := false, apart := false }
def GrantDoesSaid : Prop := grantDoesRow.holds Try.pinned (OpenSpec.ofChange grantDoesSpec)

/-- ITS FALSE NEIGHBOUR: 'it returns false'. Refute it at one input. -/
def grantDoesWrong : ChangeSpec := { name := "grantDoes", fn := fun _ => fun
  | [d1, d2] => { results := [.lit (.bool false)], args := [d1, d2] }
  | _ => none }
def GrantDoesWrongFalsely : Prop := grantDoesRow.holds Try.pinned (OpenSpec.ofChange grantDoesWrong)

/-- 'linesidelaw18.GrantKeeps': WHATEVER THE INPUT: true; the input reads as it did. -/
def grantKeepsSpec : ChangeSpec := { name := "grantKeeps", fn := fun _ => fun
  | [d1, d2, d3, d4, d5] => { results := [.lit (.bool true)], args := [d1, d2, d3, d4, d5] }
  | _ => none }
def grantKeepsRow : OpenClaim := { program := "ytlcbajdckgcopaa", sum := "e339cba44cd8f63fccf4dd9112b522b326a943ed46b2b98651a13e1771ae5278", func := "lineside/linesidelaw18.GrantKeeps", spec := "grantKeeps", unfollowed := true, recurses := true, plainKeys := false, apart := false }
def GrantKeepsSaid : Prop := grantKeepsRow.holds Try.pinned (OpenSpec.ofChange grantKeepsSpec)

/-- ITS FALSE NEIGHBOUR: 'it returns false'. Refute it at one input. -/
def grantKeepsWrong : ChangeSpec := { name := "grantKeeps", fn := fun _ => fun
  | [d1, d2, d3, d4, d5] => { results := [.lit (.bool false)], args := [d1, d2, d3, d4, d5] }
  | _ => none }
def GrantKeepsWrongFalsely : Prop := grantKeepsRow.holds Try.pinned (OpenSpec.ofChange grantKeepsWrong)

/-- 'linesidelaw18.GrantAdds': WHATEVER THE INPUT: true; the input reads as it did. -/
def grantAddsSpec : ChangeSpec := { name := "grantAdds", fn := fun _ => fun
  | [d1, d2, d3] => { results := [.lit (.bool true)], args := [d1, d2, d3] }
  | _ => none }
def grantAddsRow : OpenClaim := { program := "ytlcbajdckgcopaa", sum := "e339cba44cd8f63fccf4dd9112b522b326a943ed46b2b98651a13e1771ae5278", func := "lineside/linesidelaw18.GrantAdds", spec := "grantAdds", unfollowed := true, recurses := true, plainKeys := false, apart := false }
def GrantAddsSaid : Prop := grantAddsRow.holds Try.pinned (OpenSpec.ofChange grantAddsSpec)

/-- ITS FALSE NEIGHBOUR: 'it returns false'. Refute it at one input. -/
def grantAddsWrong : ChangeSpec := { name := "grantAdds", fn := fun _ => fun
  | [d1, d2, d3] => { results := [.lit (.bool false)], args := [d1, d2, d3] }
  | _ => none }
def GrantAddsWrongFalsely : Prop := grantAddsRow.holds Try.pinned (OpenSpec.ofChange grantAddsWrong)

/- THE SECOND FORM. 'bulk': how many values and letters a reading holds, each counted each time it is reached (what is shared counts as often as it is met; a slice's spare places count too). A statement '..UptoSaid' is the law's where the arguments, and the package variables that the reading takes, are together of bulk at most 1048576: NARROWER than '..Said'. Prove '..Said' where nothing that the law and all that it calls make is longer than what came in: it says more and counts as full. Else prove '..UptoSaid'. A law counts once. -/
mutual
def uptoBulk {H : Type} : DataW H → Nat
  | .lit (.string bytes) => bytes.length + 1
  | .lit _ => 1
  | .nil => 1
  | .ptr d => uptoBulk d + 1
  | .slice elems spare => uptoBulkAll elems + uptoBulkAll spare + 1
  | .agg parts => uptoBulkAll parts + 1
  | .iface _ d => uptoBulk d + 1
  | .map entries => uptoBulkEntries entries + 1
  | .held _ => 1
def uptoBulkAll {H : Type} : List (DataW H) → Nat
  | [] => 0
  | d :: r => uptoBulk d + uptoBulkAll r
def uptoBulkEntries {H : Type} : List (Lit × DataW H) → Nat
  | [] => 0
  | x :: r => uptoBulkEntry x + uptoBulkEntries r
def uptoBulkEntry {H : Type} : Lit × DataW H → Nat
  | (.string bytes, d) => bytes.length + uptoBulk d + 1
  | (_, d) => uptoBulk d + 1
 end
def uptoSmall : (H : Type) → List (DataW H) → Bool := fun _ ds => decide (uptoBulkAll ds ≤ 1048576)
def OpenSpec.upto (s : _root_.Go.ChangeSpec) : _root_.Go.OpenSpec := { _root_.Go.OpenSpec.ofChange s with cond := some uptoSmall }

/-- 'linesidelaw13.TopoChecks', WHERE WHAT IT READS IS OF BULK AT MOST 1048576: true; the input reads as it did. -/
def topoChecksUptoRow : OpenClaim := { program := "ytlcbajdckgcopaa", sum := "e339cba44cd8f63fccf4dd9112b522b326a943ed46b2b98651a13e1771ae5278", func := "lineside/linesidelaw13.TopoChecks", spec := "topoChecks", unfollowed := true, recurses := true, plainKeys := false, apart := false, narrowed := true }
def TopoChecksUptoSaid : Prop := topoChecksUptoRow.holds Try.pinned (OpenSpec.upto topoChecksSpec)

/-- 'linesidelaw13.TopoBack', WHERE WHAT IT READS IS OF BULK AT MOST 1048576: true; the input reads as it did. -/
def topoBackUptoRow : OpenClaim := { program := "ytlcbajdckgcopaa", sum := "e339cba44cd8f63fccf4dd9112b522b326a943ed46b2b98651a13e1771ae5278", func := "lineside/linesidelaw13.TopoBack", spec := "topoBack", unfollowed := true, recurses := true, plainKeys := false, apart := false, narrowed := true }
def TopoBackUptoSaid : Prop := topoBackUptoRow.holds Try.pinned (OpenSpec.upto topoBackSpec)

/-- 'linesidelaw13.TopoRoutes', WHERE WHAT IT READS IS OF BULK AT MOST 1048576: true; the input reads as it did. -/
def topoRoutesUptoRow : OpenClaim := { program := "ytlcbajdckgcopaa", sum := "e339cba44cd8f63fccf4dd9112b522b326a943ed46b2b98651a13e1771ae5278", func := "lineside/linesidelaw13.TopoRoutes", spec := "topoRoutes", unfollowed := true, recurses := true, plainKeys := false, apart := false, narrowed := true }
def TopoRoutesUptoSaid : Prop := topoRoutesUptoRow.holds Try.pinned (OpenSpec.upto topoRoutesSpec)

/-- 'linesidelaw13.TopoFinds', WHERE WHAT IT READS IS OF BULK AT MOST 1048576: true; the input reads as it did. -/
def topoFindsUptoRow : OpenClaim := { program := "ytlcbajdckgcopaa", sum := "e339cba44cd8f63fccf4dd9112b522b326a943ed46b2b98651a13e1771ae5278", func := "lineside/linesidelaw13.TopoFinds", spec := "topoFinds", unfollowed := true, recurses := true, plainKeys := false, apart := false, narrowed := true }
def TopoFindsUptoSaid : Prop := topoFindsUptoRow.holds Try.pinned (OpenSpec.upto topoFindsSpec)

/-- 'linesidelaw18.GrantHolds', WHERE WHAT IT READS IS OF BULK AT MOST 1048576: true; the input reads as it did. -/
def grantHoldsUptoRow : OpenClaim := { program := "ytlcbajdckgcopaa", sum := "e339cba44cd8f63fccf4dd9112b522b326a943ed46b2b98651a13e1771ae5278", func := "lineside/linesidelaw18.GrantHolds", spec := "grantHolds", unfollowed := true, recurses := true, plainKeys := false, apart := false, narrowed := true }
def GrantHoldsUptoSaid : Prop := grantHoldsUptoRow.holds Try.pinned (OpenSpec.upto grantHoldsSpec)

/-- 'linesidelaw18.GrantOrder', WHERE WHAT IT READS IS OF BULK AT MOST 1048576: true; the input reads as it did. -/
def grantOrderUptoRow : OpenClaim := { program := "ytlcbajdckgcopaa", sum := "e339cba44cd8f63fccf4dd9112b522b326a943ed46b2b98651a13e1771ae5278", func := "lineside/linesidelaw18.GrantOrder", spec := "grantOrder", unfollowed := true, recurses := true, plainKeys := false, apart := false, narrowed := true }
def GrantOrderUptoSaid : Prop := grantOrderUptoRow.holds Try.pinned (OpenSpec.upto grantOrderSpec)

/-- 'linesidelaw15.SpanLong', WHERE WHAT IT READS IS OF BULK AT MOST 1048576: true; the input reads as it did. -/
def spanLongUptoRow : OpenClaim := { program := "ytlcbajdckgcopaa", sum := "e339cba44cd8f63fccf4dd9112b522b326a943ed46b2b98651a13e1771ae5278", func := "lineside/linesidelaw15.SpanLong", spec := "spanLong", unfollowed := true, recurses := true, plainKeys := false, apart := false, narrowed := true }
def SpanLongUptoSaid : Prop := spanLongUptoRow.holds Try.pinned (OpenSpec.upto spanLongSpec)

/-- 'linesidelaw18.GrantFrees', WHERE WHAT IT READS IS OF BULK AT MOST 1048576: true; the input reads as it did. -/
def grantFreesUptoRow : OpenClaim := { program := "ytlcbajdckgcopaa", sum := "e339cba44cd8f63fccf4dd9112b522b326a943ed46b2b98651a13e1771ae5278", func := "lineside/linesidelaw18.GrantFrees", spec := "grantFrees", unfollowed := true, recurses := true, plainKeys := false, apart := false, narrowed := true }
def GrantFreesUptoSaid : Prop := grantFreesUptoRow.holds Try.pinned (OpenSpec.upto grantFreesSpec)

/-- 'linesidelaw18.GrantDoes', WHERE WHAT IT READS IS OF BULK AT MOST 1048576: true; the input reads as it did. -/
def grantDoesUptoRow : OpenClaim := { program := "ytlcbajdckgcopaa", sum := "e339cba44cd8f63fccf4dd9112b522b326a943ed46b2b98651a13e1771ae5278", func := "lineside/linesidelaw18.GrantDoes", spec := "grantDoes", unfollowed := true, recurses := true, plainKeys := false, apart := false, narrowed := true }
def GrantDoesUptoSaid : Prop := grantDoesUptoRow.holds Try.pinned (OpenSpec.upto grantDoesSpec)

/-- 'linesidelaw18.GrantKeeps', WHERE WHAT IT READS IS OF BULK AT MOST 1048576: true; the input reads as it did. -/
def grantKeepsUptoRow : OpenClaim := { program := "ytlcbajdckgcopaa", sum := "e339cba44cd8f63fccf4dd9112b522b326a943ed46b2b98651a13e1771ae5278", func := "lineside/linesidelaw18.GrantKeeps", spec := "grantKeeps", unfollowed := true, recurses := true, plainKeys := false, apart := false, narrowed := true }
def GrantKeepsUptoSaid : Prop := grantKeepsUptoRow.holds Try.pinned (OpenSpec.upto grantKeepsSpec)

/-- 'linesidelaw18.GrantAdds', WHERE WHAT IT READS IS OF BULK AT MOST 1048576: true; the input reads as it did. -/
def grantAddsUptoRow : OpenClaim := { program := "ytlcbajdckgcopaa", sum := "e339cba44cd8f63fccf4dd9112b522b326a943ed46b2b98651a13e1771ae5278", func := "lineside/linesidelaw18.GrantAdds", spec := "grantAdds", unfollowed := true, recurses := true, plainKeys := false, apart := false, narrowed := true }
def GrantAddsUptoSaid : Prop := grantAddsUptoRow.holds Try.pinned (OpenSpec.upto grantAddsSpec)

end Rows
end Go.Proofs.Ytlcbajdckgcopaa
