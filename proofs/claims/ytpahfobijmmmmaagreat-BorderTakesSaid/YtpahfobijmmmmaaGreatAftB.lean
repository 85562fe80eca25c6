/- Chapter 13: topo.After, the walk. -/
import Derived.Test.YtpahfobijmmmmaaGreatStpS
import Derived.Test.YtpahfobijmmmmaaGreatTopD
namespace Go.Proofs.YtpahfobijmmmmaaGreat
open Go.RowKit

/-- the ends that joints join, each both ways, in the order in which After takes them -/
def pairsJ (J : List Jt) : List (En × En) := J.flatMap fun j => [(j.1, j.2), (j.2, j.1)]
theorem pairsJ_at : ∀ {J : List Jt} {k : Nat} {j : Jt}, J[k]? = some j → (pairsJ J)[2 * k]? = some (j.1, j.2) ∧ (pairsJ J)[2 * k + 1]? = some (j.2, j.1)
  | [], k, j, h => by simp at h
  | y :: J, 0, j, h => by simp at h; subst h; exact ⟨rfl, rfl⟩
  | y :: J, k + 1, j, h => by
    have := pairsJ_at (J := J) (k := k) (j := j) (by simpa using h)
    rw [show 2 * (k + 1) = 2 * k + 1 + 1 by omega]
    exact this
theorem pairsJ_len (J : List Jt) : (pairsJ J).length = 2 * J.length := by
  induction J with
  | nil => rfl
  | cons j J ih => simp only [pairsJ, List.flatMap_cons, List.length_append, List.length_cons, List.length_nil] at ih ⊢; omega
/-- the steps that the first m of them give -/
def setQ (J : List Jt) (ne : Nat) (s : Stp) (m : Nat) (u : Stp) : Prop := ∃ q ∈ (pairsJ J).take m, q.1 = outE s ∧ q.2 = inE u ∧ thereB ne u.1 = true
theorem setQ_succ {J : List Jt} {ne : Nat} {s : Stp} {m : Nat} {a b : En} (h : (pairsJ J)[m]? = some (a, b)) (u : Stp) : setQ J ne s (m + 1) u ↔ (setQ J ne s m u ∨ (a = outE s ∧ b = inE u ∧ thereB ne u.1 = true)) := by
  unfold setQ
  obtain ⟨h2, h3⟩ := List.getElem?_eq_some_iff.1 h
  rw [List.take_succ_eq_append_getElem h2, h3]
  constructor
  · rintro ⟨q, hq, r⟩
    rcases List.mem_append.1 hq with hq | hq
    · exact .inl ⟨q, hq, r⟩
    · simp at hq; subst hq; exact .inr r
  · rintro (⟨q, hq, r⟩ | r)
    · exact ⟨q, List.mem_append_left _ hq, r⟩
    · exact ⟨(a, b), by simp, r⟩
theorem setQ_all {J : List Jt} {ne : Nat} {s : Stp} {m : Nat} (hm : 2 * J.length ≤ m) (u : Stp) : setQ J ne s m u ↔ (thereB ne u.1 = true ∧ mayJ J s u = true) := by
  unfold setQ mayJ joinB
  rw [List.take_of_length_le (by rw [pairsJ_len]; exact hm), List.any_eq_true]
  constructor
  · rintro ⟨q, hq, h1, h2, h3⟩
    obtain ⟨j, hj, hqj⟩ := List.mem_flatMap.1 hq
    refine ⟨h3, j, hj, ?_⟩
    rw [Bool.or_eq_true, decide_eq_true_eq, decide_eq_true_eq, ← h1, ← h2]
    simp at hqj
    rcases hqj with rfl | rfl
    · exact .inl rfl
    · exact .inr rfl
  · rintro ⟨h3, j, hj, h⟩
    rw [Bool.or_eq_true, decide_eq_true_eq, decide_eq_true_eq] at h
    rcases h with rfl | rfl
    · exact ⟨(outE s, inE u), List.mem_flatMap.2 ⟨_, hj, by simp⟩, rfl, rfl, h3⟩
    · exact ⟨(outE s, inE u), List.mem_flatMap.2 ⟨_, hj, by simp⟩, rfl, rfl, h3⟩
theorem inE_zero {u : Stp} {b1 b2 : Int} (h2 : b2 = 0) : (b1, b2) = inE u ↔ u = (b1, false) := by
  subst h2
  obtain ⟨e, r⟩ := u
  cases r <;> simp [inE, eq_comm]
theorem inE_one {u : Stp} {b1 b2 : Int} (h2 : b2 = 1) : (b1, b2) = inE u ↔ u = (b1, true) := by
  subst h2
  obtain ⟨e, r⟩ := u
  cases r <;> simp [inE, eq_comm]
theorem inE_none {u : Stp} {b1 b2 : Int} (h0 : b2 ≠ 0) (h1 : b2 ≠ 1) : ¬ (b1, b2) = inE u := by
  obtain ⟨e, r⟩ := u
  cases r <;> simp [inE, h0, h1]
theorem held10_next {W0 w w' : World} {a b c d e f g h i j : Addr} {ua ub uc ud ue uf ug uh ui uj : Value} (H : Keep Never W0 w ∧ w.cell? a = some ua ∧ w.cell? b = some ub ∧ w.cell? c = some uc ∧ w.cell? d = some ud ∧ w.cell? e = some ue ∧ w.cell? f = some uf ∧ w.cell? g = some ug ∧ w.cell? h = some uh ∧ w.cell? i = some ui ∧ w.cell? j = some uj) (hk : Keep Never w w') :
    Keep Never W0 w' ∧ w'.cell? a = some ua ∧ w'.cell? b = some ub ∧ w'.cell? c = some uc ∧ w'.cell? d = some ud ∧ w'.cell? e = some ue ∧ w'.cell? f = some uf ∧ w'.cell? g = some ug ∧ w'.cell? h = some uh ∧ w'.cell? i = some ui ∧ w'.cell? j = some uj :=
  ⟨H.1.trans hk, keepT hk H.2.1, keepT hk H.2.2.1, keepT hk H.2.2.2.1, keepT hk H.2.2.2.2.1, keepT hk H.2.2.2.2.2.1, keepT hk H.2.2.2.2.2.2.1, keepT hk H.2.2.2.2.2.2.2.1, keepT hk H.2.2.2.2.2.2.2.2.1, keepT hk H.2.2.2.2.2.2.2.2.2.1, keepT hk H.2.2.2.2.2.2.2.2.2.2⟩
/-- what After answers -/
def AftRet (l : List Stp) (w : World) (e : Ending) (w' : World) : Prop := ∃ A n c, e = .returned (.slice A n c) ∧ Hid (n = l.length) ∧ Own w' w.heap.size 106 2 A n c (stpCells l) ∧ Keep Never w w'
theorem ltT_total {s u : Stp} (h1 : ¬ ltT u s) (h2 : s ≠ u) : ltT s u := by
  obtain ⟨a, r⟩ := s
  obtain ⟨b, q⟩ := u
  unfold ltT at *
  simp only [ne_eq, Prod.mk.injEq, not_and] at *
  cases r <;> cases q <;> simp at * <;> omega

end Go.Proofs.YtpahfobijmmmmaaGreat
