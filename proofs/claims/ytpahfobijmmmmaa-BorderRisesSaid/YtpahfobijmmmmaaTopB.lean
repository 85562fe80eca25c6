/- Chapter 13: which ends are joined (slices.Contains at joints, topo.joins, may; the document's joined, May). -/
import Derived.Test.YtpahfobijmmmmaaTopA
namespace Go.Proofs.Ytpahfobijmmmmaa
open Go.RowKit

theorem four (p1 p2 p3 p4 : Bool) : p1 = false ∨ (p1 = true ∧ p2 = false) ∨ (p1 = true ∧ p2 = true ∧ p3 = false) ∨ (p1 = true ∧ p2 = true ∧ p3 = true ∧ p4 = false) ∨ (p1 = true ∧ p2 = true ∧ p3 = true ∧ p4 = true) := by
  cases p1 <;> cases p2 <;> cases p3 <;> cases p4 <;> simp
theorem joinB_eq (l : List Jt) (a b : En) : joinB l a b = (decide ((a, b) ∈ l) || decide ((b, a) ∈ l)) := by
  rw [Bool.eq_iff_iff]
  simp only [joinB, List.any_eq_true, Bool.or_eq_true, decide_eq_true_eq]
  constructor
  · rintro ⟨j, h, rfl | rfl⟩
    · exact .inl h
    · exact .inr h
  · rintro (h | h)
    · exact ⟨_, h, .inl rfl⟩
    · exact ⟨_, h, .inr rfl⟩
end Go.Proofs.Ytpahfobijmmmmaa
