/- Layer 5: what a packet that comes in is; PacketCut. -/
import Derived.Test.YtiebjnibmomcjaaDoorPackT
namespace Go.Proofs.YtiebjnibmomcjaaDoor
open Go.RowKit

def repPack : Rep (Int × List Int) := Rep.int.pair Rep.int.list
theorem opens_pack : Rep.Opens Tryd.prog 39 repPack :=
  Rep.opens_struct Tryd.underlying39 (by kernel_rfl)
    (Rep.fopens_cons rfl (by kernel_rfl) (Rep.opens_int Tryd.underlying3) (Rep.fopens_last rfl (by kernel_rfl)
      (Rep.opens_list Tryd.underlying22 (by kernel_rfl) (by decide) (Rep.opens_int Tryd.underlying3))))
theorem ints_rd {w : World} {B n c : Nat} {A : Option Addr} {l : List Int} (h : Rep.int.Sl w B A n c l) : Rd w B 1 A n (l.map (.int .i64)) ∧ l.length = n ∧ ∀ x ∈ l, i64 x := by
  obtain ⟨h1, _, _, _, css, h5, h6⟩ := h
  have hf : css.flatten = l.map (.int .i64) ∧ ∀ x ∈ l, i64 x := by
    clear h5 h1
    induction l generalizing css with
    | nil => cases css with
      | nil => simp
      | cons b m => exact h6.elim
    | cons a l ih => cases css with
      | nil => exact h6.elim
      | cons b m =>
        obtain ⟨⟨rfl, ha⟩, ht⟩ := h6
        obtain ⟨i1, i2⟩ := ih m ht
        refine ⟨by simp [i1], fun x hx => ?_⟩
        rcases List.mem_cons.1 hx with rfl | hx
        · exact ha
        · exact i2 x hx
  rw [hf.1] at h5
  exact ⟨h5, h1.symm, hf.2⟩
theorem bools_rd {w : World} {B n c : Nat} {A : Option Addr} {l : List Bool} (h : Rep.bool.Sl w B A n c l) : Rd w B 1 A n (l.map .bool) ∧ l.length = n := by
  obtain ⟨h1, _, _, _, css, h5, h6⟩ := h
  have hf : css.flatten = l.map .bool := by
    clear h5 h1
    induction l generalizing css with
    | nil => cases css with
      | nil => simp
      | cons b m => exact h6.elim
    | cons a l ih => cases css with
      | nil => exact h6.elim
      | cons b m =>
        obtain ⟨rfl, ht⟩ := h6
        have i1 := ih m ht
        simp [i1]
  rw [hf] at h5
  exact ⟨h5, h1.symm⟩
theorem opens_bools : Rep.Opens Tryd.prog 67 Rep.bool.list := Rep.opens_list Tryd.underlying67 (by kernel_rfl) (by decide) (Rep.opens_bool Tryd.underlying4)
/-- a packet that comes in -/
def PackIn (W : World) (_id : Int) (V : List Int) (A : Option Addr) (n c : Nat) : Prop :=
  Rd W W.heap.size 1 A n (V.map (.int .i64)) ∧ V.length = n ∧ n ≤ c ∧ c ≤ maxLen ∧ ∀ x ∈ V, i64 x
theorem pack_in {W : World} {a : Int × List Int} {cs : Array Value} (h : repPack.cells W W.heap.size a cs.toList) : ∃ A n c, cs = packCells a.1 A n c ∧ PackIn W a.1 a.2 A n c := by
  obtain ⟨c1, c2, he, ⟨rfl, _⟩, A, n, c, rfl, hs⟩ := h
  obtain ⟨h1, h2, h3⟩ := ints_rd hs
  exact ⟨A, n, c, by cases cs; simp_all [packCells], h1, h2, hs.2.1, hs.2.2.1, h3⟩

end Go.Proofs.YtiebjnibmomcjaaDoor
