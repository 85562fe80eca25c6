/- Layer 5: PacketOnly. -/
import Derived.Test.YtiebjnibmomcjaaDoorPackS
import Derived.Test.YtiebjnibmomcjaaDoorSld
import Derived.Test.YtiebjnibmomcjaaDoorBitsY
namespace Go.Proofs.YtiebjnibmomcjaaDoor
open Go.RowKit

theorem sumW_ge : ∀ (tr : List (Int × Int)), mayAll tr → (tr.length : Int) ≤ sumW (itemsOf tr)
  | [], _ => by simp [sumW, itemsOf]
  | x :: t, h => by
    have h1 := sumW_ge t (fun y hy => h y (by simp [hy]))
    have h2 := (vMay_range (h x (by simp))).1
    simp only [itemsOf, sumW, List.map_cons, List.sum_cons, List.length_cons] at h1 ⊢
    omega
theorem nums_le : ∀ (tr : List (Int × Int)), (nums tr).length ≤ tr.length
  | [] => Nat.le_refl _
  | (v, n) :: t => by
    have := nums_le t
    simp only [nums]
    split <;> simp <;> omega
theorem nums_mem : ∀ (tr : List (Int × Int)) (x : Int), x ∈ nums tr → ∃ v, (v, x) ∈ tr
  | [], x, h => by simp [nums] at h
  | (v, n) :: t, x, h => by
    simp only [nums] at h
    split at h
    · obtain ⟨v', hv⟩ := nums_mem t x h; exact ⟨v', by simp [hv]⟩
    · rcases List.mem_cons.1 h with rfl | h
      · exact ⟨v, by simp⟩
      · obtain ⟨v', hv⟩ := nums_mem t x h; exact ⟨v', by simp [hv]⟩
theorem ItemsM_short {id : Int} {V : List Int} {l : List (Int × Int)} (h : ItemsM id V = .ok l) : V.length ≤ 8190 ∧ l.length ≤ 8190 ∧ (∀ x ∈ V, i64 x) ∧ 0 ≤ sumW l ∧ sumW l ≤ 8184 := by
  obtain ⟨T, tr, hT, _, hm, rfl, rfl, _, hs⟩ := ItemsM_trace h
  have h1 := sumW_ge tr hm
  have h2 := nums_le tr
  have h3 : sumW (itemsOf ((5, id) :: tr)) = vWidth 5 + sumW (itemsOf tr) := by simp [sumW, itemsOf]
  have h4 := vWidth_range 5
  have h5 := (sumW_items ((5, id) :: tr)).1
  refine ⟨by omega, by simp [itemsOf]; omega, fun x hx => ?_, h5, hs⟩
  obtain ⟨v, hv⟩ := nums_mem tr x hx
  have := vMay_range (v := v) (n := x) (hm _ hv)
  have := pow_le32 (k := (vWidth v).toNat) (by omega)
  unfold i64
  omega

end Go.Proofs.YtiebjnibmomcjaaDoor
