/- Chapter 13: how steps lie in cells. -/
import Derived.Test.YtlcbajdckgcopaaMapA
namespace Go.Proofs.Ytlcbajdckgcopaa
open Go.RowKit

def stpCell (s : Stp) : List Value := [.int .i64 s.1, .bool s.2]
/-- the cells of steps -/
def stpCells (l : List Stp) : List Value := l.flatMap stpCell
theorem stpCells_cons (s : Stp) (l : List Stp) : stpCells (s :: l) = .int .i64 s.1 :: .bool s.2 :: stpCells l := rfl
theorem stpCells_nil : stpCells [] = [] := rfl
theorem stpCells_app (l m : List Stp) : stpCells (l ++ m) = stpCells l ++ stpCells m := by simp [stpCells]
theorem len_stpCells (l : List Stp) : (stpCells l).length = l.length * 2 := by
  induction l with
  | nil => rfl
  | cons s l ih => rw [stpCells_cons]; simp only [List.length_cons, ih]; omega
theorem stpCells_one (l : List Stp) : ∀ u ∈ stpCells l, u.oneCell' = true := by
  induction l with
  | nil => intro u hu; cases hu
  | cons s l ih =>
    intro u hu
    rw [stpCells_cons] at hu
    rcases List.mem_cons.1 hu with rfl | hu
    · rfl
    rcases List.mem_cons.1 hu with rfl | hu
    · rfl
    exact ih u hu
theorem stpCells_at : ∀ (l : List Stp) {i : Nat} {s : Stp}, l[i]? = some s → (stpCells l)[i * 2]? = some (.int .i64 s.1) ∧ (stpCells l)[i * 2 + 1]? = some (.bool s.2) := by
  intro l
  induction l with
  | nil => intro i s h; simp at h
  | cons y l ih =>
    intro i s h
    cases i with
    | zero => simp only [List.getElem?_cons_zero, Option.some.injEq] at h; subst h; exact ⟨rfl, rfl⟩
    | succ i =>
      simp only [List.getElem?_cons_succ] at h
      obtain ⟨h1, h2⟩ := ih h
      rw [stpCells_cons, show (i + 1) * 2 = i * 2 + 1 + 1 by omega, show i * 2 + 1 + 1 + 1 = (i * 2 + 1) + 1 + 1 by omega]
      simp only [List.getElem?_cons_succ]
      exact ⟨h1, h2⟩
theorem stpCells_set : ∀ (l : List Stp) {i : Nat} (s : Stp), i < l.length → stpCells (l.set i s) = ((stpCells l).set (i * 2) (.int .i64 s.1)).set (i * 2 + 1) (.bool s.2) := by
  intro l
  induction l with
  | nil => intro i s h; simp at h
  | cons y l ih =>
    intro i s h
    cases i with
    | zero => rfl
    | succ i =>
      have := ih (i := i) s (by simpa using h)
      rw [List.set_cons_succ, stpCells_cons, stpCells_cons, this, show (i + 1) * 2 = i * 2 + 1 + 1 by omega, show i * 2 + 1 + 1 + 1 = (i * 2 + 1) + 1 + 1 by omega]
      simp only [List.set_cons_succ]
theorem Rd.stp {w : World} {B n k : Nat} {A : Option Addr} {l : List Stp} (h : Rd w B 2 A n (stpCells l)) (hk : k < n) : ∃ ad s, A = some ad ∧ ad.block < B ∧ l[k]? = some s ∧ w.cell? (ad.add (k * 2)) = some (.int .i64 s.1) ∧
    w.cell? ⟨(ad.add (k * 2)).block, (ad.add (k * 2)).off + 1, none⟩ = some (.bool s.2) := by
  obtain ⟨ad, e, hb, hc⟩ := h.2 (by omega)
  have hl : k < l.length := by have := h.1; rw [len_stpCells] at this; omega
  have hs : l[k]? = some l[k] := List.getElem?_eq_getElem hl
  obtain ⟨a0, a1⟩ := stpCells_at l hs
  have c0 := hc _ _ a0
  have c1 := hc _ _ a1
  rw [fld _ _ (by omega)] at c1
  exact ⟨ad, l[k], e, hb, hs, c0, c1⟩
theorem Rd.stp_len {w : World} {B n : Nat} {A : Option Addr} {l : List Stp} (h : Rd w B 2 A n (stpCells l)) : l.length = n := by have := h.1; rw [len_stpCells] at this; omega
theorem stps_rd {w : World} {B n c : Nat} {A : Option Addr} {l : List Stp} (h : repStp.Sl w B A n c l) : Rd w B 2 A n (stpCells l) ∧ n = l.length ∧ n ≤ c ∧ c ≤ maxLen ∧ (A = none → c = 0) ∧ ∀ s ∈ l, in64 s := by
  obtain ⟨h1, h2, h3, h4, css, h5, h6⟩ := h
  have hf : css.flatten = stpCells l ∧ ∀ s ∈ l, in64 s := by
    clear h5 h1
    induction l generalizing css with
    | nil => cases css with
      | nil => simp [stpCells_nil]
      | cons b m => exact h6.elim
    | cons a l ih => cases css with
      | nil => exact h6.elim
      | cons b m =>
        obtain ⟨e1, e2⟩ := ih m h6.2
        obtain ⟨c1, d1, rfl, ⟨rfl, h1⟩, rfl⟩ := h6.1
        refine ⟨by rw [List.flatten_cons, e1]; rfl, fun s hs => ?_⟩
        rcases List.mem_cons.1 hs with rfl | hs
        · exact h1
        · exact e2 s hs
  exact ⟨by rw [← hf.1]; exact h5, h1, h2, h3, h4, hf.2⟩
theorem stps_sl {w : World} {B n c : Nat} {A : Option Addr} {l : List Stp} (h : Rd w B 2 A n (stpCells l)) (hn : n ≤ c) (hc : c ≤ maxLen) (hA : A = none → c = 0) (h64 : ∀ s ∈ l, in64 s) : repStp.Sl w B A n c l := by
  refine ⟨h.stp_len.symm, hn, hc, hA, l.map stpCell, ?_, ?_⟩
  · have : (l.map stpCell).flatten = stpCells l := by simp [stpCells, List.flatMap]
    rw [this]; exact h
  · clear h
    induction l with
    | nil => trivial
    | cons s l ih => exact ⟨⟨[.int .i64 s.1], [.bool s.2], rfl, ⟨rfl, h64 s (by simp)⟩, rfl⟩, ih (fun u hu => h64 u (by simp [hu]))⟩
theorem stps_own {w : World} {base n c : Nat} {A : Option Addr} {l : List Stp} (h : Own w base 44 2 A n c (stpCells l)) (h64 : ∀ s ∈ l, in64 s) : repStp.Sl w w.heap.size A n c l := by
  refine stps_sl h.rd h.cap_le ?_ (fun e => ?_) h64
  · rcases h.form with ⟨_, _, h2, _⟩ | ⟨_, _, _, _, _, _, h2, _⟩
    · omega
    · exact h2
  · rcases h.form with ⟨_, _, h2, _⟩ | ⟨_, _, h2, _⟩
    · exact h2
    · rw [e] at h2; cases h2
set_option maxRecDepth 100000 in
theorem elemStp : Elem Try.prog 34 44 2 16 := ⟨Try.underlying34, _, _, rfl, rfl, rfl, rfl, rfl, by omega⟩

end Go.Proofs.Ytlcbajdckgcopaa
