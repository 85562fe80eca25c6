/- Chapter 13: After, plainly: the steps that may follow, in order. No program. -/
import Derived.Test.YtlcbajdckgcopaaStpC
namespace Go.Proofs.Ytlcbajdckgcopaa
open Go.RowKit

/-- the order of steps -/
def ltT (s u : Stp) : Prop := s.1 < u.1 ∨ (s.1 = u.1 ∧ s.2 = false ∧ u.2 = true)
theorem ltT_irrefl (s : Stp) : ¬ ltT s s := by rintro (h | ⟨_, h1, h2⟩); omega; rw [h1] at h2; cases h2
theorem ltT_trans {s u v : Stp} (h1 : ltT s u) (h2 : ltT u v) : ltT s v := by
  rcases h1 with h1 | ⟨h1, h3, h4⟩ <;> rcases h2 with h2 | ⟨h2, h5, h6⟩
  · left; omega
  · left; omega
  · left; omega
  · rw [h4] at h5; cases h5
theorem rise_one : ∀ {l m : List Stp}, l.Pairwise ltT → m.Pairwise ltT → (∀ s, s ∈ l ↔ s ∈ m) → l = m
  | [], [], _, _, _ => rfl
  | [], u :: m, _, _, h => by have := (h u).2 (by simp); simp at this
  | s :: l, [], _, _, h => by have := (h s).1 (by simp); simp at this
  | s :: l, u :: m, h1, h2, h => by
    obtain ⟨a1, a2⟩ := List.pairwise_cons.1 h1
    obtain ⟨b1, b2⟩ := List.pairwise_cons.1 h2
    have e : s = u := by
      rcases List.mem_cons.1 ((h s).1 (by simp)) with e | e
      · exact e
      · rcases List.mem_cons.1 ((h u).2 (by simp)) with e' | e'
        · exact e'.symm
        · exact absurd (ltT_trans (a1 u e') (b1 s e)) (ltT_irrefl s)
    subst e
    rw [rise_one a2 b2 fun v => ?_]
    constructor
    · intro hv
      rcases List.mem_cons.1 ((h v).1 (by simp [hv])) with e | e
      · subst e; exact absurd (a1 v hv) (ltT_irrefl v)
      · exact e
    · intro hv
      rcases List.mem_cons.1 ((h v).2 (by simp [hv])) with e | e
      · subst e; exact absurd (b1 v hv) (ltT_irrefl v)
      · exact e
def pairM (J : List Jt) (s : Stp) (i : Nat) : List Stp := (if mayB J s ((i : Int), false) = true then [((i : Int), false)] else []) ++ (if mayB J s ((i : Int), true) = true then [((i : Int), true)] else [])
def listM (J : List Jt) (s : Stp) (k : Nat) : List Stp := (List.range k).flatMap (pairM J s)
/-- the steps that may follow one -/
def afterM (t : Tp) (s : Stp) : List Stp := if thereB t.1.length s.1 = true then listM t.2.1 s t.1.length else []
theorem listM_succ (J : List Jt) (s : Stp) (k : Nat) : listM J s (k + 1) = listM J s k ++ pairM J s k := by simp [listM, List.range_succ, List.flatMap_append]
theorem pairM_mem {J : List Jt} {s u : Stp} {i : Nat} : u ∈ pairM J s i ↔ u.1 = (i : Int) ∧ mayB J s u = true := by
  obtain ⟨e, r⟩ := u
  unfold pairM
  rw [List.mem_append]
  constructor
  · rintro (h | h)
    · split at h
      · rename_i hm; simp at h; obtain ⟨rfl, rfl⟩ := h; exact ⟨rfl, hm⟩
      · simp at h
    · split at h
      · rename_i hm; simp at h; obtain ⟨rfl, rfl⟩ := h; exact ⟨rfl, hm⟩
      · simp at h
  · rintro ⟨h1, h2⟩
    simp only at h1
    subst h1
    cases r
    · left; rw [if_pos h2]; simp
    · right; rw [if_pos h2]; simp
theorem listM_mem {J : List Jt} {s u : Stp} {k : Nat} : u ∈ listM J s k ↔ thereB k u.1 = true ∧ mayB J s u = true := by
  unfold listM thereB
  rw [List.mem_flatMap, Bool.and_eq_true, decide_eq_true_eq, decide_eq_true_eq]
  constructor
  · rintro ⟨i, hi, h⟩
    obtain ⟨h1, h2⟩ := pairM_mem.1 h
    rw [List.mem_range] at hi
    exact ⟨by omega, h2⟩
  · rintro ⟨h1, h2⟩
    exact ⟨u.1.toNat, List.mem_range.2 (by omega), pairM_mem.2 ⟨by omega, h2⟩⟩
theorem pairM_rise (J : List Jt) (s : Stp) (i : Nat) : (pairM J s i).Pairwise ltT := by
  unfold pairM
  split <;> split <;> simp [ltT]
theorem listM_rise (J : List Jt) (s : Stp) : ∀ k, (listM J s k).Pairwise ltT
  | 0 => by simp [listM]
  | k + 1 => by
    rw [listM_succ, List.pairwise_append]
    refine ⟨listM_rise J s k, pairM_rise J s k, fun u hu v hv => ?_⟩
    have h1 := (listM_mem.1 hu).1
    have h2 := (pairM_mem.1 hv).1
    unfold thereB at h1
    rw [Bool.and_eq_true, decide_eq_true_eq, decide_eq_true_eq] at h1
    left; omega
theorem listM_len (J : List Jt) (s : Stp) (k : Nat) : (listM J s k).length ≤ 2 * k := by
  induction k with
  | zero => simp [listM]
  | succ k ih =>
    rw [listM_succ, List.length_append]
    have : (pairM J s k).length ≤ 2 := by unfold pairM; split <;> split <;> simp
    omega
theorem afterM_len (t : Tp) (s : Stp) : (afterM t s).length ≤ 2 * t.1.length := by
  unfold afterM; split
  · exact listM_len _ _ _
  · simp
theorem afterM_mem {t : Tp} {s u : Stp} : u ∈ afterM t s ↔ thereB t.1.length s.1 = true ∧ thereB t.1.length u.1 = true ∧ mayB t.2.1 s u = true := by
  unfold afterM; split
  · rename_i h; rw [listM_mem]; simp [h]
  · rename_i h; simp [h]
/-- what has the same members, in order, is it -/
theorem after_one {t : Tp} {s : Stp} (ht : thereB t.1.length s.1 = true) {l : List Stp} (h : l.Pairwise ltT) (hm : ∀ u, u ∈ l ↔ thereB t.1.length u.1 = true ∧ mayB t.2.1 s u = true) : l = afterM t s := by
  unfold afterM
  rw [if_pos ht]
  exact rise_one h (listM_rise _ _ _) fun u => (hm u).trans listM_mem.symm
theorem there_in {n : Nat} {x : Int} (h : thereB n x = true) : 0 ≤ x ∧ x < (n : Int) := by
  unfold thereB at h; rwa [Bool.and_eq_true, decide_eq_true_eq, decide_eq_true_eq] at h

end Go.Proofs.Ytlcbajdckgcopaa
