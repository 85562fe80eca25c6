/- Chapter 13: may; the document's joined, May. -/
import Derived.Test.YtpahfobijmmmmaaTopB
namespace Go.Proofs.Ytpahfobijmmmmaa
open Go.RowKit

theorem keepT {w w' : World} {a : Addr} {u : Value} (hk : Keep Never w w') (h : w.cell? a = some u) : w'.cell? a = some u := (hk.cell (cell_lt h) (fun h => h)).trans h
/-- == at two ends -/
def sameE (x1 x2 y1 y2 : Int) : Bool := decide (((x1, x2) : En) = (y1, y2))
theorem joinB_le {l : List Jt} {k : Nat} {a b : En} (h : joinB (l.take k) a b = true) : joinB l a b = true := by
  unfold joinB at h ⊢
  rw [List.any_eq_true] at h ⊢
  obtain ⟨j, h1, h2⟩ := h
  exact ⟨j, List.mem_of_mem_take h1, h2⟩
theorem joinB_snoc_t {l : List Jt} {x1 x2 x3 x4 a1 a2 b1 b2 : Int} (h : (sameE x1 x2 a1 a2 = true ∧ sameE x3 x4 b1 b2 = true) ∨ (sameE x1 x2 b1 b2 = true ∧ sameE x3 x4 a1 a2 = true)) : joinB (l ++ [((x1, x2), (x3, x4))]) (a1, a2) (b1, b2) = true := by
  unfold joinB sameE at *
  simp only [decide_eq_true_eq] at h
  rw [List.any_append]
  rcases h with ⟨h1, h2⟩ | ⟨h1, h2⟩ <;> rw [h1, h2] <;> simp
theorem joinB_snoc_f {l : List Jt} {x1 x2 x3 x4 a1 a2 b1 b2 : Int} (h0 : joinB l (a1, a2) (b1, b2) = false) (h : sameE x1 x2 a1 a2 = false ∨ sameE x3 x4 b1 b2 = false) (h' : sameE x1 x2 b1 b2 = false ∨ sameE x3 x4 a1 a2 = false) : joinB (l ++ [((x1, x2), (x3, x4))]) (a1, a2) (b1, b2) = false := by
  unfold joinB sameE at *
  simp only [decide_eq_false_iff_not] at h h'
  rw [List.any_append, h0]
  simp only [List.any_cons, List.any_nil, Bool.or_false, Bool.false_or, Bool.or_eq_false_iff, decide_eq_false_iff_not, Prod.mk.injEq, not_and] at *
  omega

end Go.Proofs.Ytpahfobijmmmmaa
