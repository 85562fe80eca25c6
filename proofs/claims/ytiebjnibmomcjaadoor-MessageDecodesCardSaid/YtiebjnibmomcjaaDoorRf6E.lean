/- Chapter 6, the document's: Encode. -/
import Derived.Test.YtiebjnibmomcjaaDoorRf6D
import Derived.Test.YtiebjnibmomcjaaDoorRefE
namespace Go.Proofs.YtiebjnibmomcjaaDoor
open Go.RowKit

/-- Fits, at a row that is known -/
theorem fits6_any (B : Nat) {id must : Int} {own may : List Int} (hf : formM id = some (own, must, may)) (A : Option Addr) (n c : Nat) (ids : List Int) (w : World) (hi : IdsAt w B A n ids) (hn : n ≤ 100000) :
    Calls Tryd.prog 38 #[.agg #[.string (rowS id).1, .string (rowS id).2.1, .string (rowS id).2.2], .slice A n c] w fun e w' => e = .returned (.bool (fitsM must may ids)) ∧ Keep Never w w' := by
  obtain ⟨_, _, r3, r4, _, _, r7⟩ := row_of hf
  rcases r4 with ⟨h1, h2⟩ | ⟨rfl, h2⟩ | ⟨h1, h2⟩
  · exact fits6_must B _ _ _ must may (.inl ⟨h1, h2⟩) r3 r7 A n c ids w hi hn
  · have hF : fitsM (-1) may ids = fitsR may [] ids := by unfold fitsM; rw [if_neg (by decide)]
    rw [hF]
    exact fits6_free B _ _ _ may (by rw [h2]; exact noStr) r3 r7 A n c ids w hi hn
  · exact fits6_must B _ _ _ must may (.inr ⟨h1, h2⟩) r3 r7 A n c ids w hi hn
/-- the document's variable of a name -/
theorem find6_any {v : Int} (h : 0 ≤ v ∧ v < 96) (w : World) : Calls Tryd.prog 34 #[.string (vName v.toNat)] w fun e w' => e = .returned (.int .i64 v) ∧ Keep Never w w' := by
  refine (rfind_any (vName v.toNat) w).mono ?_
  rintro e w' ⟨x, rfl, hx, hk⟩
  have h1 := hx.one (find_name (show v.toNat < 96 by omega))
  exact ⟨by rw [h1, Int.toNat_of_nonneg h.1], hk⟩
theorem may6_any (v x : Int) (w : World) : Calls Tryd.prog 35 #[.int .i64 v, .int .i64 x] w fun e w' => e = .returned (.bool (vMay v x)) ∧ Keep Never w w' := by
  rw [vMay_eq]
  exact rmay_any v x w
theorem head_names (id : Int) : ∀ v ∈ headM id, 0 ≤ v ∧ v < 96 := by
  unfold headM
  split <;> decide
theorem nums_pos {l : List (Int × Int)} (h : ∀ y ∈ l, mayB y.1 y.2 = true) : (l.length : Int) ≤ sumW l := by
  induction l with
  | nil => simp [sumW]
  | cons y l ih =>
    have h1 := ih (fun z hz => h z (by simp [hz]))
    have h2 := mayB_iff.1 (h y (by simp))
    simp only [sumW, List.map_cons, List.sum_cons, List.length_cons] at h1 ⊢
    omega

end Go.Proofs.YtiebjnibmomcjaaDoor
