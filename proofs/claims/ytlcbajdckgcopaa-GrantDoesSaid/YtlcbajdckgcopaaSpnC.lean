/- Chapter 15: how spans lie in cells; what comes in. -/
import Derived.Test.YtlcbajdckgcopaaRep
import Derived.Test.YtlcbajdckgcopaaSpnA
namespace Go.Proofs.Ytlcbajdckgcopaa
open Go.RowKit

/-- an int of 64 bits -/
def i64_ (n : Int) : Prop := -9223372036854775808 ≤ n ∧ n ≤ 9223372036854775807
def spIn (s : Sp) : Prop := i64_ s.1 ∧ i64_ s.2.1 ∧ i64_ s.2.2
def spCell (s : Sp) : List Value := [.int .i64 s.1, .int .i64 s.2.1, .int .i64 s.2.2]
/-- the cells of spans -/
def spCells (l : List Sp) : List Value := l.flatMap spCell
theorem spCells_cons (s : Sp) (l : List Sp) : spCells (s :: l) = .int .i64 s.1 :: .int .i64 s.2.1 :: .int .i64 s.2.2 :: spCells l := rfl
theorem spCells_nil : spCells [] = [] := rfl
theorem spCells_app (l m : List Sp) : spCells (l ++ m) = spCells l ++ spCells m := by simp [spCells]
theorem len_spCells (l : List Sp) : (spCells l).length = l.length * 3 := by
  induction l with
  | nil => rfl
  | cons s l ih => rw [spCells_cons]; simp only [List.length_cons, ih]; omega
theorem spCells_one (l : List Sp) : ∀ u ∈ spCells l, u.oneCell' = true := by
  induction l with
  | nil => intro u hu; cases hu
  | cons s l ih =>
    intro u hu
    rw [spCells_cons] at hu
    rcases List.mem_cons.1 hu with rfl | hu
    · rfl
    rcases List.mem_cons.1 hu with rfl | hu
    · rfl
    rcases List.mem_cons.1 hu with rfl | hu
    · rfl
    exact ih u hu
theorem spCells_at : ∀ (l : List Sp) {i : Nat} {s : Sp}, l[i]? = some s → (spCells l)[i * 3]? = some (.int .i64 s.1) ∧ (spCells l)[i * 3 + 1]? = some (.int .i64 s.2.1) ∧ (spCells l)[i * 3 + 2]? = some (.int .i64 s.2.2) := by
  intro l
  induction l with
  | nil => intro i s h; simp at h
  | cons y l ih =>
    intro i s h
    cases i with
    | zero => simp only [List.getElem?_cons_zero, Option.some.injEq] at h; subst h; exact ⟨rfl, rfl, rfl⟩
    | succ i =>
      simp only [List.getElem?_cons_succ] at h
      obtain ⟨h1, h2, h3⟩ := ih h
      rw [spCells_cons, show (i + 1) * 3 = i * 3 + 1 + 1 + 1 by omega, show i * 3 + 1 + 1 + 1 + 1 = (i * 3 + 1) + 1 + 1 + 1 by omega, show i * 3 + 1 + 1 + 1 + 2 = (i * 3 + 2) + 1 + 1 + 1 by omega]
      simp only [List.getElem?_cons_succ]
      exact ⟨h1, h2, h3⟩
theorem spCells_set2 : ∀ (l : List Sp) {i : Nat} {s : Sp}, l[i]? = some s → ∀ m, spCells (l.set i (s.1, s.2.1, m)) = (spCells l).set (i * 3 + 2) (.int .i64 m) := by
  intro l
  induction l with
  | nil => intro i s h; simp at h
  | cons y l ih =>
    intro i s h m
    cases i with
    | zero =>
      simp only [List.getElem?_cons_zero, Option.some.injEq] at h
      subst h
      rfl
    | succ i =>
      simp only [List.getElem?_cons_succ] at h
      rw [List.set_cons_succ, spCells_cons, spCells_cons, ih h m, show (i + 1) * 3 + 2 = (i * 3 + 2) + 1 + 1 + 1 by omega, List.set_cons_succ, List.set_cons_succ, List.set_cons_succ]
theorem spCells_take : ∀ (l : List Sp) (k : Nat), (spCells l).take (k * 3) = spCells (l.take k)
  | [], k => by simp [spCells_nil]
  | s :: l, 0 => by simp [spCells_nil]
  | s :: l, k + 1 => by
    rw [List.take_succ_cons, spCells_cons, spCells_cons, show (k + 1) * 3 = k * 3 + 1 + 1 + 1 by omega, List.take_succ_cons, List.take_succ_cons, List.take_succ_cons, spCells_take l k]
theorem spCells_drop : ∀ (l : List Sp) (k : Nat), (spCells l).drop (k * 3) = spCells (l.drop k)
  | [], k => by simp [spCells_nil]
  | s :: l, 0 => by simp
  | s :: l, k + 1 => by
    rw [List.drop_succ_cons, spCells_cons, show (k + 1) * 3 = k * 3 + 1 + 1 + 1 by omega, List.drop_succ_cons, List.drop_succ_cons, List.drop_succ_cons, spCells_drop l k]
/-- element k of spans that a slice reads as -/
theorem Rd.sp {w : World} {B n k : Nat} {A : Option Addr} {l : List Sp} (h : Rd w B 3 A n (spCells l)) (hk : k < n) : ∃ ad s, A = some ad ∧ ad.block < B ∧ l[k]? = some s ∧ w.cell? (ad.add (k * 3)) = some (.int .i64 s.1) ∧
    w.cell? ⟨(ad.add (k * 3)).block, (ad.add (k * 3)).off + 1, none⟩ = some (.int .i64 s.2.1) ∧ w.cell? ⟨(ad.add (k * 3)).block, (ad.add (k * 3)).off + 2, none⟩ = some (.int .i64 s.2.2) := by
  obtain ⟨ad, e, hb, hc⟩ := h.2 (by omega)
  have hl : k < l.length := by have := h.1; rw [len_spCells] at this; omega
  have hs : l[k]? = some l[k] := List.getElem?_eq_getElem hl
  obtain ⟨a0, a1, a2⟩ := spCells_at l hs
  have c0 := hc _ _ a0
  have c1 := hc _ _ a1
  have c2 := hc _ _ a2
  rw [fld _ _ (by omega)] at c1 c2
  exact ⟨ad, l[k], e, hb, hs, c0, c1, c2⟩
theorem Rd.sp_len {w : World} {B n : Nat} {A : Option Addr} {l : List Sp} (h : Rd w B 3 A n (spCells l)) : l.length = n := by have := h.1; rw [len_spCells] at this; omega

def repSp : Rep Sp := Rep.int.pair (Rep.int.pair Rep.int)
theorem opens_sp : Rep.Opens Try.prog 109 repSp :=
  Rep.opens_struct Try.underlying109 (by kernel_rfl)
    (Rep.fopens_cons rfl (by kernel_rfl) (Rep.opens_int Try.underlying3) (Rep.fopens_cons rfl (by kernel_rfl) (Rep.opens_int Try.underlying3) (Rep.fopens_last rfl (by kernel_rfl) (Rep.opens_int Try.underlying3))))
theorem opens_sps : Rep.Opens Try.prog 51 repSp.list := Rep.opens_list Try.underlying51 (by kernel_rfl) (by decide) opens_sp
theorem repSp_cells {w : World} {B : Nat} {s : Sp} {cs : List Value} (h : repSp.cells w B s cs) : cs = spCell s ∧ spIn s := by
  obtain ⟨c, d, rfl, ⟨rfl, h1⟩, c', d', rfl, ⟨rfl, h2⟩, ⟨rfl, h3⟩⟩ := h
  exact ⟨rfl, h1, h2, h3⟩
theorem sps_rd {w : World} {B n c : Nat} {A : Option Addr} {l : List Sp} (h : repSp.Sl w B A n c l) : Rd w B 3 A n (spCells l) ∧ n = l.length ∧ n ≤ c ∧ c ≤ maxLen ∧ (A = none → c = 0) ∧ ∀ s ∈ l, spIn s := by
  obtain ⟨h1, h2, h3, h4, css, h5, h6⟩ := h
  have hf : css.flatten = spCells l ∧ ∀ s ∈ l, spIn s := by
    clear h5 h1
    induction l generalizing css with
    | nil => cases css with
      | nil => simp [spCells_nil]
      | cons b m => exact h6.elim
    | cons a l ih => cases css with
      | nil => exact h6.elim
      | cons b m =>
        obtain ⟨e1, e2⟩ := ih m h6.2
        obtain ⟨e3, e4⟩ := repSp_cells h6.1
        refine ⟨by rw [List.flatten_cons, e1, e3]; rfl, fun s hs => ?_⟩
        rcases List.mem_cons.1 hs with rfl | hs
        · exact e4
        · exact e2 s hs
  exact ⟨by rw [← hf.1]; exact h5, h1, h2, h3, h4, hf.2⟩
set_option maxRecDepth 100000 in
theorem elemSp : Elem Try.prog 51 109 3 24 := ⟨Try.underlying51, _, _, rfl, rfl, rfl, rfl, rfl, by omega⟩

end Go.Proofs.Ytlcbajdckgcopaa
