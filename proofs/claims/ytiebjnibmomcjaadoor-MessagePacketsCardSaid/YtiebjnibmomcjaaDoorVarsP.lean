/- Plain laws of the table. -/
import Derived.Test.YtiebjnibmomcjaaDoorVarsN
namespace Go.Proofs.YtiebjnibmomcjaaDoor
open Go.RowKit

theorem vrows_plain : ∀ k, k < 96 → wtab.getD k 0 = (vrows.getD k ⟨[], 0, 0, 0⟩).width ∧ vMost k = rMost k ∧ vSpecial k = rSpecial k := by decide +kernel
theorem vIs_iff {v : Int} : vIs v = true ↔ 0 ≤ v ∧ v < 96 := by simp [vIs]
theorem vWidth_eq (v : Int) : vWidth v = (vrow v).width := by
  unfold vWidth vrow
  split
  · exact (vrows_plain v.toNat (by omega)).1
  · rfl
theorem vSpecial_eq (v : Int) : vSpecial v = rSpecial v := by
  by_cases h : 0 ≤ v ∧ v < 96
  · obtain ⟨k, rfl⟩ : ∃ k : Nat, v = k := ⟨v.toNat, by omega⟩
    exact (vrows_plain k (by omega)).2.2
  · have e : rSpecial v = 0 := by rw [rSpecial, vrow, if_neg h]; rfl
    rw [e]
    unfold vSpecial
    (repeat' split) <;> omega
theorem vMost_eq (v : Int) : vMost v = rMost v := by
  by_cases h : 0 ≤ v ∧ v < 96
  · obtain ⟨k, rfl⟩ : ∃ k : Nat, v = k := ⟨v.toNat, by omega⟩
    exact (vrows_plain k (by omega)).2.1
  · have hf : vIs v = false := by simpa [vIs] using h
    have e : rMost v = 0 := by rw [rMost, hf, if_neg (by simp), vrow, if_neg h]
    have e2 : vWidth v = 0 := by rw [vWidth, if_neg h]
    rw [e]
    unfold vMost
    rw [e2]
    (repeat' split) <;> first | omega | rfl
theorem vrows_special : ∀ r ∈ vrows, r.special ≠ 0 ∧ (0 < r.special → r.special < ((2 ^ r.width.toNat : Nat) : Int) ∧ 0 ≤ r.most ∧ r.most < r.special) ∧ r.most < ((2 ^ r.width.toNat : Nat) : Int) := by decide +kernel
theorem vMay_eq (v n : Int) : vMay v n = rMay v n := by
  rw [Bool.eq_iff_iff]
  unfold vMay rMay
  rw [vMost_eq, vSpecial_eq, vWidth_eq, decide_eq_true_iff, decide_eq_true_iff, vIs_iff]
  by_cases h : 0 ≤ v ∧ v < 96
  · obtain ⟨k, rfl⟩ : ∃ k : Nat, v = k := ⟨v.toNat, by omega⟩
    have hm := List.mem_of_getElem? (vrow_at k (by omega))
    have h1 := vrows_range (vrow k) hm
    have h2 := vrows_special (vrow k) hm
    have hi : vIs (k : Int) = true := vIs_iff.2 h
    unfold rMost rSpecial
    rw [hi]
    generalize (vrow k).width = wd at *
    generalize (vrow k).most = m at *
    generalize (vrow k).special = sp at *
    generalize ((2 ^ wd.toNat : Nat) : Int) = p at *
    by_cases hm : m < 0
    · rw [if_pos ⟨rfl, hm⟩]
      by_cases hs : sp < 0
      · rw [if_pos hs]; omega
      · rw [if_neg hs]; omega
    · rw [if_neg (by simpa using hm)]
      by_cases hs : sp < 0
      · rw [if_pos hs]; omega
      · rw [if_neg hs]; omega
  · have e : vrow v = ⟨[], 0, 0, 0⟩ := by rw [vrow, if_neg h]
    rw [e]
    simp only [ne_eq, not_true_eq_false, false_and, false_iff]
    omega

theorem names_nodup : (vrows.map (·.name)).Nodup := by decide +kernel
theorem names_some : ∀ r ∈ vrows, r.name ≠ [] := by decide +kernel
theorem vName_inj {a b : Nat} (ha : a < 96) (hb : b < 96) (h : vName a = vName b) : a = b := by
  have h1 : (vrow a).name = (vrow b).name := by
    have := congrArg (fun x : ByteArray => x.data.toList) h
    exact this
  have e1 : (vrows.map (·.name))[a]? = some (vrow a).name := by rw [List.getElem?_map, vrow_at a ha]; rfl
  have e2 : (vrows.map (·.name))[b]? = some (vrow b).name := by rw [List.getElem?_map, vrow_at b hb]; rfl
  exact (List.getElem?_inj (by rw [List.length_map, vrows_len]; exact ha) names_nodup).1 (by rw [e1, e2, h1])
theorem vName_ne {a : Nat} (ha : a < 96) : vName a ≠ ⟨#[]⟩ := by
  intro h
  have h1 : (vrow a).name = [] := congrArg (fun x : ByteArray => x.data.toList) h
  exact names_some _ (List.mem_of_getElem? (vrow_at a ha)) h1
theorem find_name {a : Nat} (ha : a < 96) : FindIs (vName a) a := .inl ⟨a, ha, rfl, rfl, fun j hj h => by have := vName_inj (by omega) ha h; omega⟩

end Go.Proofs.YtiebjnibmomcjaaDoor
