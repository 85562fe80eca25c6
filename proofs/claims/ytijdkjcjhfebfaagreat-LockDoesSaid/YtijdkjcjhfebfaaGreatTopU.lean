/- Chapter 13: what a checked track's routes are (plain). -/
import Derived.Test.YtijdkjcjhfebfaaGreatBdTopP
namespace Go.Proofs.YtijdkjcjhfebfaaGreat
open Go.RowKit

theorem firstE_all {f : Nat → Int} : ∀ {n : Nat}, firstE f n = 0 → ∀ j, j < n → f j = 0
  | 0, _, j, hj => by omega
  | n + 1, h, j, hj => by
    unfold firstE at h
    by_cases h1 : firstE f n = 0
    · rw [if_neg (by simpa using h1)] at h
      by_cases e : j = n
      · rw [e]; exact h
      · exact firstE_all h1 j (by omega)
    · rw [if_pos h1] at h
      exact absurd h h1
/-- what a route of a checked track is -/
structure RtGood (t : Tp) (r : Rt) : Prop where
  fnd : rtM t.2.2.2 r.1 = some r
  err : (lenM t r.2.1).2 = 0
  gap : r.2.2.1 < (lenM t r.2.1).1
  few : r.2.1.length ≤ 8
  bal : ∀ (k : Nat) (s : Stp), r.2.1[k]? = some s → t.2.2.1.any (fun b => b.2.1 == s.1) = true
  aft : ∀ (k : Nat) (s u : Stp), r.2.1[k]? = some s → r.2.1[k + 1]? = some u → u ∈ afterM t s
  dis : ∀ (j k : Nat) (s u : Stp), j < k → r.2.1[j]? = some s → r.2.1[k]? = some u → s.1 ≠ u.1
theorem routed_good {t : Tp} {r : Rt} (h : routedM t r = 0) : (lenM t r.2.1).2 = 0 ∧ r.2.2.1 < (lenM t r.2.1).1 ∧ r.2.1.length ≤ 8 ∧ pathBad t.1.length r.2.1 = false ∧ r.2.1.any (noBal t.2.2.1) = false := by
  unfold routedM at h
  split at h
  · exact absurd h (by decide)
  rename_i h1
  split at h
  · exact absurd h (by decide)
  rename_i h2
  split at h
  · rename_i h3
    exact absurd h h3
  rename_i h3
  split at h
  · exact absurd h (by decide)
  rename_i h4
  split at h
  · exact absurd h (by decide)
  rename_i h5
  refine ⟨by omega, by omega, by omega, by simpa using h2, by simpa using h5⟩
theorem len_way {t : Tp} {p : List Stp} (h : (lenM t p).2 = 0) : p.all (fun s => thereB t.1.length s.1) = true ∧ wayM t.2.1 p = true := by
  unfold lenM at h
  split at h
  · exact absurd h (by simp)
  split at h
  · rename_i h2
    split at h
    · rename_i h3
      exact ⟨h2, h3⟩
    · exact absurd h (by simp)
  · exact absurd h (by simp)
theorem check_good {t : Tp} (h : checkM t = 0) {i : Nat} {r : Rt} (hr : t.2.2.2[i]? = some r) : RtGood t r := by
  have h0 : firstE (rErr t) t.2.2.2.length = 0 := by
    unfold checkM at h
    split at h
    · exact absurd h (by decide)
    split at h
    · exact absurd h (by decide)
    split at h
    · rename_i h3; exact absurd h h3
    split at h
    · rename_i h3; exact absurd h h3
    exact h
  have hi : i < t.2.2.2.length := (List.getElem?_eq_some_iff.1 hr).1
  have h1 := firstE_all h0 i hi
  unfold rErr at h1
  rw [hr] at h1
  simp only at h1
  split at h1
  · rename_i h2; exact absurd h1 h2
  rename_i h2
  have h2 : routedM t r = 0 := by simpa using h2
  split at h1
  · exact absurd h1 (by decide)
  rename_i h3
  have h3 : rtM (t.2.2.2.take i) r.1 = none := by simpa using h3
  obtain ⟨e1, e2, e3, e4, e5⟩ := routed_good h2
  obtain ⟨e6, e7⟩ := len_way e1
  have hth : ∀ (k : Nat) (s : Stp), r.2.1[k]? = some s → thereB t.1.length s.1 = true := fun k s hs => List.all_eq_true.1 e6 s (List.mem_of_getElem? hs)
  refine ⟨?_, e1, e2, e3, ?_, ?_, ?_⟩
  · refine rt_hit hr rfl (fun x hx => ?_)
    unfold rtM at h3
    rw [List.find?_eq_none] at h3
    have := h3 x hx
    simpa using this
  · intro k s hs
    rw [List.any_eq_false] at e5
    have := e5 s (List.mem_of_getElem? hs)
    unfold noBal at this
    simpa using this
  · intro k s u hs hu
    rw [afterM_mem]
    refine ⟨hth k s hs, hth _ u hu, ?_⟩
    rw [← okAt_eq hs hu]
    unfold wayM at e7
    rw [List.all_eq_true] at e7
    exact e7 k (List.mem_range.2 (by have := (List.getElem?_eq_some_iff.1 hu).1; omega))
  · intro j k s u hjk hs hu he
    unfold pathBad at e4
    rw [List.any_eq_false] at e4
    have h5 := e4 k (List.mem_range.2 (List.getElem?_eq_some_iff.1 hu).1)
    apply h5
    unfold badAt
    rw [hu]
    simp only [Bool.or_eq_true]
    right
    rw [List.any_eq_true]
    refine ⟨s, ?_, by simpa using he⟩
    rw [List.mem_iff_getElem?]
    exact ⟨j, by rw [List.getElem?_take]; rw [if_pos hjk]; exact hs⟩

end Go.Proofs.YtijdkjcjhfebfaaGreat
