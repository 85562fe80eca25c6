/- SpanLong: slices.Reverse at steps, by the kit's contract. -/
import Derived.Test.YtijdkjcjhfebfaaLayRev
import Derived.Test.YtijdkjcjhfebfaaSlgA
import Derived.Test.YtijdkjcjhfebfaaTopL
namespace Go.Proofs.Ytijdkjcjhfebfaa
open Go.RowKit Go.Sort Go.Shelf

theorem stp_agg (w : World) : (isAgg 45).run Try.prog w = .ok true w := by rw [Try.isAgg45]
theorem stp_size (w : World) : (Go.sizeOf 45).run Try.prog w = .ok 2 w := by rw [Try.sizeOf45]
theorem rev_any (base n c : Nat) (A : Option Addr) (l : List Stp) (w : World) (h : Own w base 45 2 A n c (stpCells l)) (hb : base ≤ w.heap.size) (hn : n ≤ 100000000) :
    Calls Try.prog 51 #[.slice A n c] w fun e w' => e = .returned (.tuple #[]) ∧ Own w' base 45 2 A n c (stpCells l.reverse) ∧ Keep (InRow A) w w' := by
  have hlen := h.len
  rw [len_stpCells] at hlen
  by_cases h0 : n = 0
  · subst h0
    have hl : l = [] := List.length_eq_zero_iff.1 (by omega)
    subst hl
    exact (AnyQ.slices_Reverse_empty revSt A c w).mono fun e w' ⟨h1, h2⟩ => by subst h2; exact ⟨h1, h, Keep.refl _ _⟩
  · rcases h.form with ⟨_, h2, _⟩ | ⟨g, cur, rfl, hg, hB, _, _, _, _⟩
    · exact absurd h2 h0
    have hc := AnyQ.slices_Reverse revSt 2 stp_agg stp_size stpCell (fun _ => rfl) (fun x v hv => stpCells_one [x] v (by simpa [stpCells] using hv)) g 0 c l.toArray w (holds_of_ownT h) (by simp; omega)
    have hs : l.toArray.size = n := by simp; omega
    rw [hs] at hc
    refine hc.mono fun e w' ⟨h1, m, h2⟩ => ⟨h1, ?_⟩
    have h3 := own_sortT (m := m) #[] h (l' := l.reverse) (by simp) hb
    have e1 : sortWorldK stpCell 2 w g 0 m l.reverse.toArray #[] = w' := by
      rw [h2]
      unfold sortWorldK grow
      simp
    rw [e1] at h3
    exact h3

end Go.Proofs.Ytijdkjcjhfebfaa
