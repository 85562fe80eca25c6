/- Chapter 16 (lock), plainly: which interlockings may be, what is set and freed, what is locked. No program. -/
import Derived.Test.YtijdkjcjhfebfaaGreatGrA
import Derived.Test.YtijdkjcjhfebfaaGreatTopU
import Derived.Test.YtijdkjcjhfebfaaGreatTopI
namespace Go.Proofs.YtijdkjcjhfebfaaGreat
open Go.RowKit

/-- a locking: route, train, number -/
abbrev Lk := Int × Int × Int
/-- an interlocking: the lockings, the next number -/
abbrev Itr := List Lk × Int
def extM (t : Tp) (route : Int) : List Sp := match rtM t.2.2.2 route with
  | none => []
  | some r => if (lenM t r.2.1).2 = 0 then (if overE t r.2.1 0 (lenM t r.2.1).1 = 0 then normM (overK t.1 0 (lenM t r.2.1).1 r.2.1 r.2.1.length) else []) else []
def trainB (n : Int) : Bool := decide (0 ≤ n) && decide (n ≤ 16777215)
def lockedB (l : List Lk) (route : Int) : Bool := l.any fun k => k.1 == route
def metB (t : Tp) (l : List Lk) (route train : Int) : Bool := l.any fun k => (k.2.1 != train) && meetsM (extM t route) (extM t k.1)
def lastI (l : List Lk) : Nat → Int
  | 0 => 0
  | j + 1 => match l[j]? with | some k => k.2.2 | none => 0
def okI (t : Tp) (x : Itr) (i : Nat) : Bool := match x.1[i]? with
  | none => true
  | some k => decide (lastI x.1 i < k.2.2) && decide (k.2.2 < x.2) && trainB k.2.1 && (rtM t.2.2.2 k.1).isSome && !lockedB (x.1.take i) k.1 && !metB t (x.1.take i) k.1 k.2.1
def mayI (t : Tp) (x : Itr) : Bool := decide (checkM t = 0) && decide (x.1.length ≤ 24) && decide (1 ≤ x.2) && decide (x.2 ≤ 1099511627776) && (List.range x.1.length).all (okI t x)
def noI : Itr := ([], 0)
/-- Set: the interlocking, the number, the error -/
def setI (t : Tp) (x : Itr) (route train : Int) : Itr × Int × Int :=
  if mayI t x = true ∧ trainB train = true then
    (if (rtM t.2.2.2 route).isSome = true then
      (if lockedB x.1 route = true then (noI, 0, 5)
       else if metB t x.1 route train = true then (noI, 0, 160)
       else if x.1.length = 24 ∨ x.2 = 1099511627776 then (noI, 0, 3)
       else ((x.1 ++ [(route, train, x.2)], x.2 + 1), x.2, 0))
     else (noI, 0, 4))
  else (noI, 0, 1)
def leftI (l : List Lk) (no : Int) : List Lk := l.filter fun k => k.2.2 != no
def freeI (t : Tp) (x : Itr) (no : Int) : Itr × Int := if mayI t x = true then (if (leftI x.1 no).length = x.1.length then (noI, 4) else ((leftI x.1 no, x.2), 0)) else (noI, 1)
def ofM (l : List Lk) (train : Int) : List Lk := l.filter fun k => k.2.1 == train
def lockedM (t : Tp) (l : List Lk) (train : Int) : List Sp := if checkM t = 0 then normM ((ofM l train).flatMap fun k => extM t k.1) else []

/-- one locking behind another one -/
structure BehI (t : Tp) (a b : Lk) : Prop where
  no : a.2.2 < b.2.2
  rt : a.1 ≠ b.1
  met : a.2.1 ≠ b.2.1 → meetsM (extM t b.1) (extM t a.1) = false
structure OneI (t : Tp) (n : Int) (k : Lk) : Prop where
  pos : 0 < k.2.2
  lt : k.2.2 < n
  tr : trainB k.2.1 = true
  is : (rtM t.2.2.2 k.1).isSome = true
structure MayI (t : Tp) (x : Itr) : Prop where
  chk : checkM t = 0
  len : x.1.length ≤ 24
  lo : 1 ≤ x.2
  hi : x.2 ≤ 1099511627776
  one : ∀ k ∈ x.1, OneI t x.2 k
  two : x.1.Pairwise (BehI t)
theorem okI_iff {t : Tp} {x : Itr} {i : Nat} {k : Lk} (h : x.1[i]? = some k) : okI t x i = true ↔ lastI x.1 i < k.2.2 ∧ k.2.2 < x.2 ∧ trainB k.2.1 = true ∧ (rtM t.2.2.2 k.1).isSome = true ∧ lockedB (x.1.take i) k.1 = false ∧ metB t (x.1.take i) k.1 k.2.1 = false := by
  unfold okI; rw [h]; simp [and_assoc]
theorem lastI_at {l : List Lk} {j : Nat} {k : Lk} (h : l[j]? = some k) : lastI l (j + 1) = k.2.2 := by
  show (match l[j]? with | some k => k.2.2 | none => 0) = k.2.2
  rw [h]
theorem no_up {l : List Lk} (h : ∀ i k, l[i]? = some k → lastI l i < k.2.2) : ∀ (j i : Nat) (a b : Lk), i < j → l[i]? = some a → l[j]? = some b → a.2.2 < b.2.2
  | 0, i, a, b, hi, _, _ => by omega
  | j + 1, i, a, b, hi, ha, hb => by
    have hj : j < l.length := by have := (List.getElem?_eq_some_iff.1 hb).1; omega
    have hc : l[j]? = some l[j] := List.getElem?_eq_getElem hj
    have h1 := h (j + 1) b hb
    rw [lastI_at hc] at h1
    by_cases e : i = j
    · subst e
      rw [ha] at hc; injection hc with hc; rw [hc]; exact h1
    · have := no_up h j i a _ (by omega) ha hc; omega
theorem no_pos {l : List Lk} (h : ∀ i k, l[i]? = some k → lastI l i < k.2.2) : ∀ (j : Nat) (b : Lk), l[j]? = some b → 0 < b.2.2
  | 0, b, hb => h 0 b hb
  | j + 1, b, hb => by
    have hj : j < l.length := by have := (List.getElem?_eq_some_iff.1 hb).1; omega
    have hc : l[j]? = some l[j] := List.getElem?_eq_getElem hj
    have h1 := h (j + 1) b hb
    rw [lastI_at hc] at h1
    have := no_pos h j _ hc; omega
theorem mayI_of {t : Tp} {x : Itr} (h : mayI t x = true) : MayI t x := by
  unfold mayI at h
  simp only [Bool.and_eq_true, decide_eq_true_eq] at h
  obtain ⟨⟨⟨⟨h1, h2⟩, h3⟩, h4⟩, h5⟩ := h
  rw [List.all_eq_true] at h5
  have ha : ∀ i k, x.1[i]? = some k → lastI x.1 i < k.2.2 ∧ k.2.2 < x.2 ∧ trainB k.2.1 = true ∧ (rtM t.2.2.2 k.1).isSome = true ∧ lockedB (x.1.take i) k.1 = false ∧ metB t (x.1.take i) k.1 k.2.1 = false := fun i k hk =>
    (okI_iff hk).1 (h5 i (List.mem_range.2 (List.getElem?_eq_some_iff.1 hk).1))
  have hl : ∀ i k, x.1[i]? = some k → lastI x.1 i < k.2.2 := fun i k hk => (ha i k hk).1
  refine ⟨h1, h2, h3, h4, fun k hk => ?_, ?_⟩
  · obtain ⟨i, hi⟩ := List.mem_iff_getElem?.1 hk
    obtain ⟨_, b2, b3, b4, _⟩ := ha i k hi
    exact ⟨no_pos hl i k hi, b2, b3, b4⟩
  · rw [List.pairwise_iff_getElem]
    intro i j hi hj hij
    have e1 : x.1[i]? = some x.1[i] := List.getElem?_eq_getElem hi
    have e2 : x.1[j]? = some x.1[j] := List.getElem?_eq_getElem hj
    obtain ⟨_, _, _, _, b5, b6⟩ := ha j _ e2
    have hm : x.1[i] ∈ x.1.take j := by
      rw [List.mem_iff_getElem?]
      exact ⟨i, by rw [List.getElem?_take, if_pos hij]; exact e1⟩
    unfold lockedB at b5
    rw [List.any_eq_false] at b5
    unfold metB at b6
    rw [List.any_eq_false] at b6
    refine ⟨no_up hl j i _ _ hij e1 e2, fun h => b5 _ hm (by simp [h]), fun h => ?_⟩
    have h6 := b6 _ hm
    simp only [Bool.and_eq_true, bne_iff_ne, ne_eq, not_and, Bool.not_eq_true] at h6
    exact h6 h
theorem mayI_to {t : Tp} {x : Itr} (h : MayI t x) : mayI t x = true := by
  unfold mayI
  simp only [Bool.and_eq_true, decide_eq_true_eq]
  refine ⟨⟨⟨⟨h.chk, h.len⟩, h.lo⟩, h.hi⟩, ?_⟩
  rw [List.all_eq_true]
  intro j hj
  rw [List.mem_range] at hj
  have e2 : x.1[j]? = some x.1[j] := List.getElem?_eq_getElem hj
  have hp := List.pairwise_iff_getElem.1 h.two
  have ho := h.one _ (List.getElem_mem hj)
  rw [okI_iff e2]
  refine ⟨?_, ho.lt, ho.tr, ho.is, ?_, ?_⟩
  · cases j with
    | zero => exact ho.pos
    | succ i =>
      rw [lastI_at (List.getElem?_eq_getElem (show i < x.1.length by omega))]
      exact (hp i (i + 1) (by omega) hj (by omega)).no
  · unfold lockedB
    rw [List.any_eq_false]
    intro a ham
    obtain ⟨i, hi⟩ := List.mem_iff_getElem?.1 ham
    rw [List.getElem?_take] at hi
    split at hi
    · rename_i hij
      obtain ⟨h3, h4⟩ := List.getElem?_eq_some_iff.1 hi
      have := (hp i j h3 hj hij).rt
      rw [h4] at this
      simpa using this
    · cases hi
  · unfold metB
    rw [List.any_eq_false]
    intro a ham
    obtain ⟨i, hi⟩ := List.mem_iff_getElem?.1 ham
    rw [List.getElem?_take] at hi
    split at hi
    · rename_i hij
      obtain ⟨h3, h4⟩ := List.getElem?_eq_some_iff.1 hi
      have := (hp i j h3 hj hij).met
      rw [h4] at this
      simp only [Bool.and_eq_true, bne_iff_ne, ne_eq, not_and, Bool.not_eq_true]
      exact this
    · cases hi
theorem set_ok {t : Tp} {x : Itr} {route train : Int} (h : (setI t x route train).2.2 = 0) : mayI t x = true ∧ trainB train = true ∧ (rtM t.2.2.2 route).isSome = true ∧ lockedB x.1 route = false ∧ metB t x.1 route train = false ∧ x.1.length ≠ 24 ∧ x.2 ≠ 1099511627776 ∧ setI t x route train = ((x.1 ++ [(route, train, x.2)], x.2 + 1), x.2, 0) := by
  unfold setI at h ⊢
  split at h
  case isFalse => exact absurd h (by decide)
  rename_i h1
  split at h
  case isFalse => exact absurd h (by decide)
  rename_i h2
  split at h
  · exact absurd h (by decide)
  rename_i h3
  split at h
  · exact absurd h (by decide)
  rename_i h4
  split at h
  · exact absurd h (by decide)
  rename_i h5
  rw [if_pos h1, if_pos h2, if_neg h3, if_neg h4, if_neg h5]
  refine ⟨h1.1, h1.2, h2, by simpa using h3, by simpa using h4, fun e => h5 (.inl e), fun e => h5 (.inr e), rfl⟩
theorem set_may {t : Tp} {x : Itr} {route train : Int} (h : (setI t x route train).2.2 = 0) : mayI t (setI t x route train).1 = true := by
  obtain ⟨h1, h2, h3, h4, h5, h6, h7, h8⟩ := set_ok h
  rw [h8]
  have hm := mayI_of h1
  unfold lockedB at h4
  rw [List.any_eq_false] at h4
  unfold metB at h5
  rw [List.any_eq_false] at h5
  refine mayI_to ⟨hm.chk, ?_, ?_, ?_, fun k hk => ?_, ?_⟩
  · have := hm.len; simp only [List.length_append, List.length_cons, List.length_nil]; omega
  · have := hm.lo; simp only; omega
  · have := hm.hi; simp only; omega
  · rcases List.mem_append.1 hk with hk | hk
    · obtain ⟨a1, a2, a3, a4⟩ := hm.one k hk
      exact ⟨a1, by simp only; omega, a3, a4⟩
    · rw [List.mem_singleton] at hk
      subst hk
      exact ⟨by have := hm.lo; simp only; omega, by simp only; omega, h2, h3⟩
  · rw [List.pairwise_append]
    refine ⟨hm.two, List.pairwise_singleton _ _, fun a ha b hb => ?_⟩
    rw [List.mem_singleton] at hb
    subst hb
    refine ⟨(hm.one a ha).lt, fun e => h4 a ha (by simpa using e), fun e => ?_⟩
    have := h5 a ha
    simp only [Bool.and_eq_true, bne_iff_ne, ne_eq, not_and, Bool.not_eq_true] at this
    exact this e
theorem free_ok {t : Tp} {x : Itr} {no : Int} (h : (freeI t x no).2 = 0) : mayI t x = true ∧ freeI t x no = ((leftI x.1 no, x.2), 0) := by
  unfold freeI at h ⊢
  split at h
  case isFalse => exact absurd h (by decide)
  rename_i h1
  split at h
  · exact absurd h (by decide)
  rename_i h2
  rw [if_pos h1, if_neg h2]
  exact ⟨h1, rfl⟩
theorem free_may {t : Tp} {x : Itr} {no : Int} (h : (freeI t x no).2 = 0) : mayI t (freeI t x no).1 = true := by
  obtain ⟨h1, h2⟩ := free_ok h
  rw [h2]
  have hm := mayI_of h1
  exact mayI_to ⟨hm.chk, Nat.le_trans (List.length_filter_le _ _) hm.len, hm.lo, hm.hi, fun k hk => hm.one k (List.mem_filter.1 hk).1, hm.two.filter _⟩
theorem pair_either {α : Type} {R : α → α → Prop} : ∀ {l : List α}, l.Pairwise R → ∀ a ∈ l, ∀ b ∈ l, a = b ∨ R a b ∨ R b a
  | [], _, a, ha, _, _ => by simp at ha
  | x :: l, h, a, ha, b, hb => by
    obtain ⟨h1, h2⟩ := List.pairwise_cons.1 h
    rcases List.mem_cons.1 ha with ea | ha
    · rcases List.mem_cons.1 hb with eb | hb
      · exact .inl (ea.trans eb.symm)
      · exact .inr (.inl (ea ▸ h1 b hb))
    · rcases List.mem_cons.1 hb with eb | hb
      · exact .inr (.inr (eb ▸ h1 a ha))
      · exact pair_either h2 a ha b hb
theorem has_flat {α : Type} {f : α → List Sp} {l : List α} {e x : Int} (h : hasL (l.flatMap f) e x = true) : ∃ k ∈ l, hasL (f k) e x = true := by
  induction l with
  | nil => simp [hasL_nil] at h
  | cons a l ih =>
    rw [List.flatMap_cons, hasL_app, Bool.or_eq_true] at h
    rcases h with h | h
    · exact ⟨a, by simp, h⟩
    · obtain ⟨k, h1, h2⟩ := ih h
      exact ⟨k, by simp [h1], h2⟩
theorem meets_swap {a b : List Sp} (h : meetsM a b = false) {e x : Int} (h1 : hasL a e x = true) (h2 : hasL b e x = true) : False := by
  have : meetsM a b = true := meetsM_iff.2 ⟨e, x, h1, h2⟩
  rw [h] at this; cases this
/-- THE STAGE'S THEOREM: what is locked for two trains has nothing in common -/
theorem lock_apart {t : Tp} {x : Itr} (h : mayI t x = true) {a b : Int} (hab : a ≠ b) : meetsM (lockedM t x.1 a) (lockedM t x.1 b) = false := by
  have hm := mayI_of h
  rw [← Bool.not_eq_true]
  intro hh
  obtain ⟨e, p, h1, h2⟩ := meetsM_iff.1 hh
  unfold lockedM at h1 h2
  rw [if_pos hm.chk, normM_has] at h1 h2
  obtain ⟨k, k1, k2⟩ := has_flat h1
  obtain ⟨u, u1, u2⟩ := has_flat h2
  unfold ofM at k1 u1
  rw [List.mem_filter] at k1 u1
  have ka : k.2.1 = a := by simpa using k1.2
  have ub : u.2.1 = b := by simpa using u1.2
  rcases pair_either hm.two k k1.1 u u1.1 with e1 | e1 | e1
  · subst e1; exact hab (ka.symm.trans ub)
  · exact meets_swap (e1.met (by rw [ka, ub]; exact hab)) u2 k2
  · exact meets_swap (e1.met (by rw [ka, ub]; exact hab.symm)) k2 u2
/-- a locking is there, and what comes is numbered higher -/
structure StayI (t : Tp) (r : Lk) (x : Itr) : Prop where
  may : mayI t x = true
  mem : r ∈ x.1
theorem stay_set {t : Tp} {r : Lk} {x : Itr} (h : StayI t r x) {route train : Int} (h0 : (setI t x route train).2.2 = 0) : StayI t r (setI t x route train).1 ∧ r.2.2 < (setI t x route train).2.1 ∧ route ≠ r.1 := by
  obtain ⟨h1, h2, h3, h4, h5, h6, h7, h8⟩ := set_ok h0
  refine ⟨⟨set_may h0, by rw [h8]; exact List.mem_append_left _ h.mem⟩, by rw [h8]; exact ((mayI_of h1).one r h.mem).lt, ?_⟩
  rintro rfl
  unfold lockedB at h4
  rw [List.any_eq_false] at h4
  exact h4 r h.mem (by simp)
theorem stay_free {t : Tp} {r : Lk} {x : Itr} (h : StayI t r x) {no : Int} (hn : no ≠ r.2.2) (h0 : (freeI t x no).2 = 0) : StayI t r (freeI t x no).1 := by
  obtain ⟨h1, h2⟩ := free_ok h0
  refine ⟨free_may h0, ?_⟩
  rw [h2]
  exact List.mem_filter.2 ⟨h.mem, by simpa using hn.symm⟩
theorem left_all {l : List Lk} {no : Int} (h : ∀ k ∈ l, k.2.2 ≠ no) : leftI l no = l := by
  unfold leftI
  rw [List.filter_eq_self]
  intro k hk; simpa using h k hk
theorem left_one {t : Tp} : ∀ {l : List Lk} {r : Lk}, l.Pairwise (BehI t) → r ∈ l → (leftI l r.2.2).length + 1 = l.length
  | [], r, _, h => by simp at h
  | a :: l, r, hp, h => by
    obtain ⟨h1, h2⟩ := List.pairwise_cons.1 hp
    by_cases e : a.2.2 = r.2.2
    · have hl : leftI (a :: l) r.2.2 = leftI l r.2.2 := by unfold leftI; rw [List.filter_cons, if_neg (by simp [e])]
      rw [hl, left_all (fun k hk => by have := (h1 k hk).no; omega)]; simp
    · have hl : leftI (a :: l) r.2.2 = a :: leftI l r.2.2 := by unfold leftI; rw [List.filter_cons, if_pos (by simp [e])]
      have hr : r ∈ l := by
        rcases List.mem_cons.1 h with rfl | h
        · exact absurd rfl e
        · exact h
      rw [hl, List.length_cons, List.length_cons, left_one h2 hr]
theorem stay_done {t : Tp} {r : Lk} {x : Itr} (h : StayI t r x) : (freeI t x r.2.2).2 = 0 ∧ (freeI t x r.2.2).1.1.length + 1 = x.1.length := by
  have h1 := left_one (mayI_of h.may).two h.mem
  unfold freeI
  rw [if_pos h.may, if_neg (by omega)]
  exact ⟨rfl, h1⟩
theorem stay_new {t : Tp} {x : Itr} {route train : Int} (h : (setI t x route train).2.2 = 0) : StayI t (route, train, (setI t x route train).2.1) (setI t x route train).1 := by
  obtain ⟨h1, h2, h3, h4, h5, h6, h7, h8⟩ := set_ok h
  exact ⟨set_may h, by rw [h8]; simp⟩

end Go.Proofs.YtijdkjcjhfebfaaGreat
