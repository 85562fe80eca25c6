/- Chapter 13, plainly: steps turned round. No program. -/
import Derived.Test.YtlcbajdckgcopaaTopA
namespace Go.Proofs.Ytlcbajdckgcopaa
open Go.RowKit

/-- the way back -/
def flipM (s : Stp) : Stp := (s.1, !s.2)
theorem inE_flip (s : Stp) : inE (flipM s) = outE s := by obtain ⟨a, b⟩ := s; cases b <;> rfl
theorem outE_flip (s : Stp) : outE (flipM s) = inE s := by obtain ⟨a, b⟩ := s; cases b <;> rfl
theorem joinB_swap (l : List Jt) (a b : En) : joinB l a b = joinB l b a := by
  unfold joinB
  congr 1
  funext j
  exact Bool.or_comm _ _
theorem mayB_flip (J : List Jt) (s u : Stp) : mayB J (flipM u) (flipM s) = mayB J s u := by
  unfold mayB
  rw [outE_flip, inE_flip, joinB_swap]

end Go.Proofs.Ytlcbajdckgcopaa
