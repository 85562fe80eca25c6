/- Chapter 14 (place), plainly: places, walks, places along a way. No program. -/
import Derived.Test.YtijdkjcjhfebfaaGreatTopU
import Derived.Test.YtijdkjcjhfebfaaGreatSlgA
namespace Go.Proofs.YtijdkjcjhfebfaaGreat
open Go.RowKit

/-- a place: the edge, where on it, which way it looks -/
abbrev Ps := Int × Int × Bool
def noP : Ps := (0, 0, false)
def edgeM (t : Tp) (e : Int) : Int := t.1.getD e.toNat 0
def rightB (t : Tp) (p : Ps) : Bool := decide (checkM t = 0) && thereB t.1.length p.1 && decide (0 ≤ p.2.1) && decide (p.2.1 ≤ edgeM t p.1)
def turnP (p : Ps) : Ps := (p.1, p.2.1, !p.2.2)
def overP (t : Tp) (s : Stp) (n : Int) : Ps := (s.1, if s.2 = true then edgeM t s.1 - n else n, s.2)
def alongP (t : Tp) (p : Ps) : Int := if p.2.2 = true then edgeM t p.1 - p.2.1 else p.2.1
def aheadP (t : Tp) (p : Ps) : Int := if p.2.2 = true then p.2.1 else edgeM t p.1 - p.2.1
theorem ahead_along (t : Tp) (p : Ps) : aheadP t p = edgeM t p.1 - alongP t p := by unfold aheadP alongP; split <;> omega
theorem along_over (t : Tp) (s : Stp) (n : Int) : alongP t (overP t s n) = n := by
  obtain ⟨e, r⟩ := s
  cases r <;> simp [alongP, overP]
  omega
theorem over_along (t : Tp) (p : Ps) : overP t (p.1, p.2.2) (alongP t p) = p := by
  obtain ⟨e, a, r⟩ := p
  cases r <;> simp [alongP, overP]
  omega
theorem over_in {t : Tp} {s : Stp} {n : Int} (h0 : 0 ≤ n) (h1 : n ≤ edgeM t s.1) : 0 ≤ (overP t s n).2.1 ∧ (overP t s n).2.1 ≤ edgeM t (overP t s n).1 := by
  unfold overP
  simp only
  split <;> omega
/-- the walk, n from the step's beginning, so many edges left -/
def goM (t : Tp) : Nat → Stp → Int → Ps × Int
  | 0, s, n => if n ≤ edgeM t s.1 then (overP t s n, 0) else match afterM t s with | [] => (noP, 141) | [_] => (noP, 2) | _ :: _ :: _ => (noP, 140)
  | f + 1, s, n => if n ≤ edgeM t s.1 then (overP t s n, 0) else match afterM t s with | [] => (noP, 141) | [x] => goM t f x (n - edgeM t s.1) | _ :: _ :: _ => (noP, 140)
theorem goM_in {t : Tp} {f : Nat} {s : Stp} {n : Int} (h : n ≤ edgeM t s.1) : goM t f s n = (overP t s n, 0) := by
  cases f <;> (unfold goM; rw [if_pos h])
theorem goM_end {t : Tp} {f : Nat} {s : Stp} {n : Int} (h : ¬ n ≤ edgeM t s.1) (ha : afterM t s = []) : goM t f s n = (noP, 141) := by
  cases f <;> (unfold goM; rw [if_neg h, ha])
theorem goM_fork {t : Tp} {f : Nat} {s : Stp} {n : Int} {x y : Stp} {l : List Stp} (h : ¬ n ≤ edgeM t s.1) (ha : afterM t s = x :: y :: l) : goM t f s n = (noP, 140) := by
  cases f <;> (unfold goM; rw [if_neg h, ha])
theorem goM_long {t : Tp} {s : Stp} {n : Int} {x : Stp} (h : ¬ n ≤ edgeM t s.1) (ha : afterM t s = [x]) : goM t 0 s n = (noP, 2) := by
  unfold goM; rw [if_neg h, ha]
theorem goM_next {t : Tp} {f : Nat} {s : Stp} {n : Int} {x : Stp} (h : ¬ n ≤ edgeM t s.1) (ha : afterM t s = [x]) : goM t (f + 1) s n = goM t f x (n - edgeM t s.1) := by
  conv => lhs; unfold goM
  rw [if_neg h, ha]
theorem goM_none {t : Tp} : ∀ {f : Nat} {s : Stp} {n : Int}, (goM t f s n).2 ≠ 0 → (goM t f s n).1 = noP := by
  intro f
  induction f with
  | zero =>
    intro s n h
    by_cases h0 : n ≤ edgeM t s.1
    · rw [goM_in h0] at h; exact absurd rfl h
    · rcases ha : afterM t s with _ | ⟨x, _ | ⟨y, l⟩⟩
      · rw [goM_end h0 ha]
      · rw [goM_long h0 ha]
      · rw [goM_fork h0 ha]
  | succ f ih =>
    intro s n h
    by_cases h0 : n ≤ edgeM t s.1
    · rw [goM_in h0] at h; exact absurd rfl h
    · rcases ha : afterM t s with _ | ⟨x, _ | ⟨y, l⟩⟩
      · rw [goM_end h0 ha]
      · rw [goM_next h0 ha] at h ⊢; exact ih h
      · rw [goM_fork h0 ha]
theorem goM_more {t : Tp} : ∀ {f : Nat} {s : Stp} {n : Int}, (goM t f s n).2 = 0 → goM t (f + 1) s n = goM t f s n := by
  intro f
  induction f with
  | zero =>
    intro s n h
    by_cases h0 : n ≤ edgeM t s.1
    · rw [goM_in h0, goM_in h0]
    · rcases ha : afterM t s with _ | ⟨x, _ | ⟨y, l⟩⟩
      · rw [goM_end h0 ha] at h; exact absurd h (by decide)
      · rw [goM_long h0 ha] at h; exact absurd h (by decide)
      · rw [goM_fork h0 ha] at h; exact absurd h (by decide)
  | succ f ih =>
    intro s n h
    by_cases h0 : n ≤ edgeM t s.1
    · rw [goM_in h0, goM_in h0]
    · rcases ha : afterM t s with _ | ⟨x, _ | ⟨y, l⟩⟩
      · rw [goM_end h0 ha] at h; exact absurd h (by decide)
      · rw [goM_next h0 ha] at h
        rw [goM_next h0 ha, goM_next h0 ha, ih h]
      · rw [goM_fork h0 ha] at h; exact absurd h (by decide)
theorem after_there {t : Tp} {s x : Stp} (h : x ∈ afterM t s) : thereB t.1.length x.1 = true := by
  unfold afterM at h
  split at h
  · exact (listM_mem.1 h).1
  · simp at h
/-- to go is to go a part, and then the rest -/
theorem goM_sum {t : Tp} : ∀ {f : Nat} {s : Stp} {a b : Int}, 0 ≤ a → 0 ≤ b → thereB t.1.length s.1 = true → (goM t f s (a + b)).2 = 0 →
    ∃ y : Ps, goM t f s a = (y, 0) ∧ goM t f (y.1, y.2.2) (b + alongP t y) = goM t f s (a + b) ∧ thereB t.1.length y.1 = true ∧ 0 ≤ y.2.1 ∧ y.2.1 ≤ edgeM t y.1 := by
  intro f
  induction f with
  | zero =>
    intro s a b ha hb hs h
    by_cases h0 : a ≤ edgeM t s.1
    · refine ⟨overP t s a, goM_in h0, ?_, hs, over_in ha h0⟩
      rw [along_over, Int.add_comm b a]; rfl
    · have h1 : ¬ a + b ≤ edgeM t s.1 := by omega
      rcases haf : afterM t s with _ | ⟨x, _ | ⟨y, l⟩⟩
      · rw [goM_end h1 haf] at h; exact absurd h (by decide)
      · rw [goM_long h1 haf] at h; exact absurd h (by decide)
      · rw [goM_fork h1 haf] at h; exact absurd h (by decide)
  | succ f ih =>
    intro s a b ha hb hs h
    by_cases h0 : a ≤ edgeM t s.1
    · refine ⟨overP t s a, goM_in h0, ?_, hs, over_in ha h0⟩
      rw [along_over, Int.add_comm b a]; rfl
    · have h1 : ¬ a + b ≤ edgeM t s.1 := by omega
      rcases haf : afterM t s with _ | ⟨x, _ | ⟨y, l⟩⟩
      · rw [goM_end h1 haf] at h; exact absurd h (by decide)
      · rw [goM_next h1 haf] at h ⊢
        rw [goM_next h0 haf]
        have e : a + b - edgeM t s.1 = (a - edgeM t s.1) + b := by omega
        rw [e] at h ⊢
        obtain ⟨y, y1, y2, y3⟩ := ih (a := a - edgeM t s.1) (b := b) (by omega) hb (after_there (by rw [haf]; simp)) h
        refine ⟨y, y1, ?_, y3⟩
        rw [goM_more (by rw [y2]; exact h), y2]
      · rw [goM_fork h1 haf] at h; exact absurd h (by decide)
def walkP (t : Tp) (p : Ps) (n : Int) : Ps × Int := if rightB t p = true ∧ 0 ≤ n ∧ n ≤ 1099511627776 then goM t 40 (p.1, p.2.2) (n + alongP t p) else (noP, 1)
theorem right_iff {t : Tp} {p : Ps} : rightB t p = true ↔ checkM t = 0 ∧ thereB t.1.length p.1 = true ∧ 0 ≤ p.2.1 ∧ p.2.1 ≤ edgeM t p.1 := by
  unfold rightB; simp [and_assoc]
theorem walk_none {t : Tp} {p : Ps} {n : Int} (h : (walkP t p n).2 ≠ 0) : (walkP t p n).1 = noP := by
  unfold walkP at h ⊢
  split at h
  · rename_i hc; rw [if_pos hc]; exact goM_none h
  · rename_i hc; rw [if_neg hc]
theorem along_in {t : Tp} {p : Ps} (h0 : 0 ≤ p.2.1) (h1 : p.2.1 ≤ edgeM t p.1) : 0 ≤ alongP t p ∧ alongP t p ≤ edgeM t p.1 := by unfold alongP; split <;> omega
/-- THE STAGE'S THEOREM -/
theorem walk_sum {t : Tp} {p : Ps} {a b : Int} (ha : 0 ≤ a) (hb : 0 ≤ b) (h : (walkP t p (a + b)).2 = 0) :
    ∃ y, walkP t p a = (y, 0) ∧ walkP t y b = walkP t p (a + b) ∧ rightB t (walkP t p (a + b)).1 = true := by
  unfold walkP at h
  split at h
  case isFalse => exact absurd h (by decide)
  rename_i hc
  obtain ⟨h1, h2, h3⟩ := hc
  obtain ⟨r1, r2, r3, r4⟩ := right_iff.1 h1
  have hal := along_in r3 r4
  have e : a + b + alongP t p = (a + alongP t p) + b := by omega
  rw [e] at h
  obtain ⟨y, y1, y2, y3, y4, y5⟩ := goM_sum (by omega) hb r2 h
  have hy : rightB t y = true := right_iff.2 ⟨r1, y3, y4, y5⟩
  have w1 : walkP t p (a + b) = goM t 40 (p.1, p.2.2) (a + alongP t p + b) := by unfold walkP; rw [if_pos ⟨h1, h2, h3⟩, e]
  refine ⟨y, ?_, ?_, ?_⟩
  · unfold walkP; rw [if_pos ⟨h1, ha, by omega⟩, y1]
  · rw [w1, ← y2]; unfold walkP; rw [if_pos ⟨hy, hb, by omega⟩]
  · rw [w1]
    obtain ⟨z, z1, _, z3, z4, z5⟩ := goM_sum (t := t) (f := 40) (s := (p.1, p.2.2)) (a := a + alongP t p + b) (b := 0) (by omega) (Int.le_refl 0) r2 (by rw [Int.add_zero]; exact h)
    rw [z1]; exact right_iff.2 ⟨r1, z3, z4, z5⟩

end Go.Proofs.YtijdkjcjhfebfaaGreat

namespace Go.Proofs.YtijdkjcjhfebfaaGreat
open Go.RowKit

/-- the place so far along the steps -/
def offK (t : Tp) : List Stp → Int → Ps
  | [], _ => noP
  | s :: l, n => if n ≤ edgeM t s.1 then overP t s n else offK t l (n - edgeM t s.1)
def offP (t : Tp) (p : List Stp) (n : Int) : Ps × Int := if checkM t = 0 then (if (lenM t p).2 = 0 then (if 0 ≤ n ∧ n ≤ (lenM t p).1 then (offK t p n, 0) else (noP, 1)) else (noP, (lenM t p).2)) else (noP, 1)
def onP (t : Tp) (path : List Stp) (p : Ps) : Int × Int := if rightB t p = true then (if (lenM t path).2 = 0 then (match path.findIdx? (fun s => decide (s = (p.1, p.2.2))) with | some i => (sumM t.1 (path.take i) + alongP t p, 0) | none => (0, 4)) else (0, (lenM t path).2)) else (0, 1)
theorem plainS_cons (es : List Int) (s : Stp) (l : List Stp) : plainS es (s :: l) = es.getD s.1.toNat 0 + plainS es l := by unfold plainS; simp
theorem off_at {t : Tp} : ∀ {p : List Stp} {n : Int}, p ≠ [] → 0 ≤ n → n ≤ plainS t.1 p →
    ∃ i s, p[i]? = some s ∧ offK t p n = overP t s (n - plainS t.1 (p.take i)) ∧ 0 ≤ n - plainS t.1 (p.take i) ∧ n - plainS t.1 (p.take i) ≤ edgeM t s.1 ∧ ∀ N, n ≤ N → offK t p N = offK t (p.drop i) (N - plainS t.1 (p.take i))
  | [], n, h, _, _ => absurd rfl h
  | s :: l, n, _, h0, h1 => by
    rw [plainS_cons] at h1
    by_cases h2 : n ≤ edgeM t s.1
    · refine ⟨0, s, rfl, ?_, ?_, ?_, fun N _ => ?_⟩
      · rw [List.take_zero, show plainS t.1 [] = 0 from rfl, Int.sub_zero]; unfold offK; rw [if_pos h2]
      · rw [List.take_zero, show plainS t.1 [] = 0 from rfl, Int.sub_zero]; exact h0
      · rw [List.take_zero, show plainS t.1 [] = 0 from rfl, Int.sub_zero]; exact h2
      · rw [List.take_zero, show plainS t.1 [] = 0 from rfl, Int.sub_zero]; rfl
    · have he : t.1.getD s.1.toNat 0 = edgeM t s.1 := rfl
      have hl : l ≠ [] := by
        rintro rfl
        rw [show plainS t.1 [] = 0 from rfl, he] at h1
        omega
      obtain ⟨i, u, g1, g2, g3, g4, g5⟩ := off_at (t := t) (p := l) (n := n - edgeM t s.1) hl (by omega) (by rw [he] at h1; omega)
      have e : ∀ N : Int, N - plainS t.1 ((s :: l).take (i + 1)) = N - edgeM t s.1 - plainS t.1 (l.take i) := fun N => by rw [List.take_succ_cons, plainS_cons, he]; omega
      refine ⟨i + 1, u, by rw [List.getElem?_cons_succ]; exact g1, ?_, by rw [e]; exact g3, by rw [e]; exact g4, fun N hN => ?_⟩
      · rw [e, ← g2]; conv => lhs; unfold offK
        rw [if_neg h2]
      · rw [e, List.drop_succ_cons, ← g5 _ (by omega)]; conv => lhs; unfold offK
        rw [if_neg (by omega)]
theorem check_edges {t : Tp} (h : checkM t = 0) : ∀ v ∈ t.1, 1 ≤ v ∧ v ≤ 1000000 := by
  intro v hv
  unfold checkM at h
  split at h
  · exact absurd h (by decide)
  split at h
  · exact absurd h (by decide)
  rename_i h1
  rw [Bool.not_eq_true, List.any_eq_false] at h1
  have := h1 v hv
  unfold wrongB at this
  simp at this
  omega
theorem good_of {t : Tp} {p : List Stp} (hc : checkM t = 0) (h : (lenM t p).2 = 0) : goodM t.1 p ∧ p ≠ [] ∧ (lenM t p).1 = sumM t.1 p := by
  have hw := len_way h
  unfold lenM at h ⊢
  split at h
  · exact absurd h (by decide)
  rename_i h0
  rw [if_neg h0, if_pos hw.1, if_pos hw.2]
  refine ⟨⟨check_edges hc, List.all_eq_true.1 hw.1, by omega⟩, ?_, rfl⟩
  rintro rfl
  exact h0 (.inl rfl)
theorem sum_all {es : List Int} {p : List Stp} (h : goodM es p) : sumM es p = plainS es p := by
  have := sum_plain h p.length (Nat.le_refl _)
  rwa [List.take_length] at this
theorem idx_at {p : List Stp} {i : Nat} {s : Stp} (ho : onceM p) (hs : p[i]? = some s) : p.findIdx? (fun u => decide (u = s)) = some i := by
  rw [List.findIdx?_eq_some_iff_getElem]
  obtain ⟨hi, h2⟩ := List.getElem?_eq_some_iff.1 hs
  refine ⟨hi, by rw [h2]; simp, fun j hj => ?_⟩
  simp only [decide_eq_true_eq, Bool.not_eq_true, decide_eq_false_iff_not]
  intro h3
  have := ho j i s s (by rw [List.getElem?_eq_getElem (by omega), h3]) hs rfl
  omega
theorem along_turn (t : Tp) (p : Ps) : alongP t (turnP p) = edgeM t p.1 - alongP t p := by
  obtain ⟨e, a, r⟩ := p
  cases r <;> simp [alongP, turnP]
  omega
theorem right_over {t : Tp} {s : Stp} {n : Int} (hc : checkM t = 0) (hs : thereB t.1.length s.1 = true) (h0 : 0 ≤ n) (h1 : n ≤ edgeM t s.1) : rightB t (overP t s n) = true :=
  right_iff.2 ⟨hc, hs, over_in h0 h1⟩
theorem right_turn {t : Tp} {p : Ps} (h : rightB t p = true) : rightB t (turnP p) = true := by
  obtain ⟨h1, h2, h3, h4⟩ := right_iff.1 h
  exact right_iff.2 ⟨h1, h2, h3, h4⟩
theorem plain_step {es : List Int} {p : List Stp} {i : Nat} {s : Stp} (h : p[i]? = some s) : plainS es (p.take (i + 1)) = plainS es (p.take i) + es.getD s.1.toNat 0 := by
  unfold plainS
  rw [List.take_add_one, h, List.map_append, List.sum_append]; simp
theorem plain_split (es : List Int) (p : List Stp) (i : Nat) : plainS es p = plainS es (p.take i) + plainS es (p.drop i) := by
  unfold plainS
  rw [← List.sum_append, ← List.map_append, List.take_append_drop]
/-- PlaceBack -/
theorem off_back {t : Tp} {p : List Stp} {n : Int} (hc : checkM t = 0) (h : (lenM t p).2 = 0) (ho : onceM p) (h0 : 0 ≤ n) (h1 : n ≤ (lenM t p).1) :
    onP t p (offK t p n) = (n, 0) ∧ onP t (backM p) (turnP (offK t p n)) = ((lenM t p).1 - n, 0) := by
  obtain ⟨hg, hn, hl⟩ := good_of hc h
  rw [hl, sum_all hg] at h1
  obtain ⟨i, s, g1, g2, g3, g4, _⟩ := off_at (t := t) hn h0 h1
  have hth : thereB t.1.length s.1 = true := hg.2.1 s (List.mem_of_getElem? g1)
  have hr : rightB t (offK t p n) = true := by rw [g2]; exact right_over hc hth g3 g4
  have hi : i < p.length := (List.getElem?_eq_some_iff.1 g1).1
  constructor
  · unfold onP
    rw [if_pos hr, if_pos h]
    have e : ((offK t p n).1, (offK t p n).2.2) = s := by rw [g2]; rfl
    rw [e, idx_at ho g1]
    simp only
    rw [g2, along_over, sum_plain hg i (by omega)]
    congr 1; omega
  · unfold onP
    rw [if_pos (right_turn hr), if_pos (by rw [back_len h hg]; exact h)]
    have e : ((turnP (offK t p n)).1, (turnP (offK t p n)).2.2) = flipM s := by rw [g2]; rfl
    have gb : (backM p)[p.length - 1 - i]? = some (flipM s) := by
      rw [backM_at (by omega), show p.length - 1 - (p.length - 1 - i) = i by omega, g1]; rfl
    rw [e, idx_at (back_once ho) gb]
    simp only
    have hgb := back_good hg
    rw [along_turn, g2, along_over, sum_plain hgb _ (by rw [backM_len]; omega), hl, sum_all hg]
    have hs2 : plainS t.1 ((backM p).take (p.length - 1 - i)) = plainS t.1 p - plainS t.1 (p.take (i + 1)) := by
      have e1 : (backM p).take (p.length - 1 - i) = backM (p.drop (i + 1)) := by
        unfold backM
        rw [← List.map_take, List.take_reverse, show p.length - (p.length - 1 - i) = i + 1 by omega]
      have e2 : plainS t.1 (backM (p.drop (i + 1))) = plainS t.1 (p.drop (i + 1)) := by
        unfold plainS backM
        rw [List.map_map, List.map_reverse, List.sum_reverse]; rfl
      rw [e1, e2, plain_split t.1 p (i + 1)]; omega
    rw [hs2, plain_step g1]
    have e3 : (overP t s (n - plainS t.1 (p.take i))).1 = s.1 := rfl
    have e4 : t.1.getD s.1.toNat 0 = edgeM t s.1 := rfl
    rw [e3, e4]
    congr 1; omega
/-- who goes along a way -/
theorem go_way {t : Tp} : ∀ {l : List Stp} {s : Stp} {f : Nat} {r : Int}, (∀ k a b, (s :: l)[k]? = some a → (s :: l)[k + 1]? = some b → b ∈ afterM t a) → l.length ≤ f → r ≤ plainS t.1 (s :: l) →
    (goM t f s r).2 = 140 ∨ goM t f s r = (offK t (s :: l) r, 0)
  | [], s, f, r, _, _, hr => by
    rw [plainS_cons, show plainS t.1 [] = 0 from rfl] at hr
    have h : r ≤ edgeM t s.1 := by unfold edgeM; omega
    right; rw [goM_in h]; unfold offK; rw [if_pos h]
  | u :: l, s, f, r, ha, hf, hr => by
    by_cases h : r ≤ edgeM t s.1
    · right; rw [goM_in h]; unfold offK; rw [if_pos h]
    · have hu := ha 0 s u rfl rfl
      rcases haf : afterM t s with _ | ⟨x, _ | ⟨y, m⟩⟩
      · rw [haf] at hu; simp at hu
      · rw [haf] at hu
        obtain rfl : u = x := by simpa using hu
        obtain ⟨f, rfl⟩ : ∃ g, f = g + 1 := ⟨f - 1, by simp at hf; omega⟩
        have hr2 : r - edgeM t s.1 ≤ plainS t.1 (u :: l) := by rw [plainS_cons] at hr; unfold edgeM; omega
        rw [goM_next h haf]
        rcases go_way (f := f) (fun k a b h1 h2 => ha (k + 1) a b (by simpa using h1) (by simpa using h2)) (by simp at hf; omega) hr2 with g | g
        · exact .inl g
        · right; rw [g]; conv => rhs; unfold offK
          rw [if_neg h]
      · left; rw [goM_fork h haf]
theorem way_after {t : Tp} {p : List Stp} (h : (lenM t p).2 = 0) {k : Nat} {a b : Stp} (h1 : p[k]? = some a) (h2 : p[k + 1]? = some b) : b ∈ afterM t a := by
  obtain ⟨w1, w2⟩ := len_way h
  rw [List.all_eq_true] at w1
  have ha := w1 a (List.mem_of_getElem? h1)
  have hb := w1 b (List.mem_of_getElem? h2)
  unfold wayM at w2
  rw [List.all_eq_true] at w2
  have hk : k + 1 < p.length := (List.getElem?_eq_some_iff.1 h2).1
  have := w2 k (List.mem_range.2 (by omega))
  rw [okAt_eq h1 h2] at this
  unfold afterM
  rw [if_pos ha]
  exact listM_mem.2 ⟨hb, this⟩
/-- PlaceAlong -/
theorem off_along {t : Tp} {p : List Stp} {n m : Int} (hc : checkM t = 0) (h : (lenM t p).2 = 0) (h0 : 0 ≤ n) (hm : 0 ≤ m) (hm2 : m ≤ 1099511627776) (h1 : n + m ≤ (lenM t p).1) :
    (walkP t (offK t p n) m).2 = 140 ∨ walkP t (offK t p n) m = (offK t p (n + m), 0) := by
  obtain ⟨hg, hn, hl⟩ := good_of hc h
  rw [hl, sum_all hg] at h1
  obtain ⟨i, s, g1, g2, g3, g4, g5⟩ := off_at (t := t) hn h0 (by omega)
  have hth : thereB t.1.length s.1 = true := hg.2.1 s (List.mem_of_getElem? g1)
  have hr : rightB t (offK t p n) = true := by rw [g2]; exact right_over hc hth g3 g4
  have hi : i < p.length := (List.getElem?_eq_some_iff.1 g1).1
  have hd : p.drop i = s :: p.drop (i + 1) := by
    rw [List.drop_eq_getElem_cons hi]
    obtain ⟨_, h2⟩ := List.getElem?_eq_some_iff.1 g1
    rw [h2]
  have hw : walkP t (offK t p n) m = goM t 40 s (n + m - plainS t.1 (p.take i)) := by
    unfold walkP
    rw [if_pos ⟨hr, hm, hm2⟩, g2, along_over]
    have e : m + (n - plainS t.1 (p.take i)) = n + m - plainS t.1 (p.take i) := by omega
    rw [e]; rfl
  have hsp := plain_split t.1 p i
  rw [hw, g5 (n + m) (by omega), hd]
  refine go_way (fun k a b h2 h3 => ?_) (by have := hg.2.2; simp; omega) (by rw [← hd]; omega)
  rw [← hd, List.getElem?_drop] at h2 h3
  exact way_after h h2 (by rw [Nat.add_assoc]; exact h3)

end Go.Proofs.YtijdkjcjhfebfaaGreat
