/- What the rows' list of variables gives; a world for the witnesses. -/
import Derived.Test.YtehloljfjpcniaaDoorVarsW
import Derived.Test.YtehloljfjpcniaaDoorLaw
import Derived.Lib.LaidTab
namespace Go.Proofs.YtehloljfjpcniaaDoor
open Go.RowKit Go.ChangeShapes Go.WideShapes Go.ChangeAt

theorem gTab : Tryd.prog.globalNamed "lineside/vars.widths" = some 0 := by kernel_rfl
theorem gTabType : (Tryd.prog.globals[0]?).map (·.type) = some 80 := by kernel_rfl
theorem cellsTab : Tryd.prog.cellsOf 80 = 96 := by kernel_rfl
theorem cellsInt : Tryd.prog.cellsOf 3 = 1 := by kernel_rfl
theorem laid_gives {W : World} (h : laidMetH Tryd.prog [("lineside/vars.widths", Rows.laid_lineside_vars_widths)] W) : Widths W := by
  have hT : Lib.TabIs Tryd.prog W "lineside/vars.widths" .i64 wtab := Lib.tabIs_of_head (rest := []) gTab gTabType Tryd.underlying80 Tryd.underlying3 cellsInt cellsTab h
  intro i hi
  have := hT.cell gTab i (by show i < 96; exact hi)
  rw [this]
noncomputable def laidWorld (os : Os) : World :=
  { World.holding Tryd.prog os ⟨#[], #[], []⟩ with heap := (World.holding Tryd.prog os ⟨#[], #[], []⟩).heap.modify 0 fun
      | .cells _ t frozen => .cells (wtab.map (Value.int .i64)).toArray t frozen
      | o => o }
end Go.Proofs.YtehloljfjpcniaaDoor
