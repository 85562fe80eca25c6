/- Chapter 5, plain: the trees of packets, how they are gone through, what items and bits they have. -/
import Derived.Test.YtiebjnibmomcjaaDoorBdVarsD
namespace Go.Proofs.YtiebjnibmomcjaaDoor
open Go.RowKit

/-- a packet's parts: a variable, or (wh: 1 as often as the variable ahead says, 2 if it is 1, 3 if it is 1 or 2) some in brackets -/
inductive Parts where
  | nil
  | cons (v wh : Int) (l r : Parts)

namespace Parts
def app : Parts → Parts → Parts
  | .nil, m => m
  | .cons v wh l r, m => .cons v wh l (r.app m)
def len : Parts → Nat
  | .nil => 0
  | .cons _ _ _ r => r.len + 1
theorem app_nil : ∀ t : Parts, t.app .nil = t
  | .nil => rfl
  | .cons v wh l r => by rw [app, app_nil r]
theorem app_assoc : ∀ a b c : Parts, (a.app b).app c = a.app (b.app c)
  | .nil, _, _ => rfl
  | .cons v wh l r, b, c => by simp only [app]; rw [app_assoc r b c]
theorem len_app : ∀ a b : Parts, (a.app b).len = a.len + b.len
  | .nil, b => by simp [app, len]
  | .cons v wh l r, b => by simp only [app, len]; rw [len_app r b]; omega
end Parts

def row : List Int → Parts
  | [] => .nil
  | v :: l => .cons v 0 .nil (row l)
theorem row_app (a b : List Int) : row (a ++ b) = (row a).app (row b) := by
  induction a with
  | nil => rfl
  | cons x a ih => simp only [List.cons_append, row, Parts.app, ih]
def andP (l : List Parts) : Parts := l.foldr Parts.app .nil
theorem andP_snoc (l : List Parts) (t : Parts) : andP (l ++ [t]) = (andP l).app t := by
  induction l with
  | nil => simp [andP, Parts.app, Parts.app_nil]
  | cons a l ih => simp only [andP, List.cons_append, List.foldr_cons] at ih ⊢; rw [ih, Parts.app_assoc]
def some_ (wh : Int) (l : Parts) : Parts := .cons 0 wh l .nil

def pReport (p : Parts) : Parts := andP [row [7, 8, 4], p, row [13, 14, 15, 16, 17, 18], some_ 3 (row [19]), row [20, 21, 22, 23], some_ 2 (row [24])]
def pLink : Parts := andP [row [44, 12], some_ 2 (row [10]), row [11, 45, 46, 47]]
def pTimer : Parts := andP [row [29], some_ 2 (row [30, 31])]
def pSection : Parts := andP [row [28], pTimer]
def pAuthority : Parts := andP [row [6, 7, 8, 25, 26, 27], some_ 1 pSection, row [32], pTimer, row [33], some_ 2 (row [34, 35]), row [36], some_ 2 (row [37, 38]), row [39], some_ 2 (row [40, 41, 42, 43])]
def pHead : Parts := row [6, 7, 8]
def pOne : Parts := andP [row [51, 52, 53, 27], some_ 1 (row [54, 55])]
def pSpeeds : Parts := andP [pHead, pOne, row [27], some_ 1 pOne]
def pRepeated (l : Parts) : Parts := andP [l, row [27], some_ 1 l]
def ptree (id : Int) : Option Parts :=
  if id = 0 then some (pReport .nil)
  else if id = 1 then some (pReport (row [74]))
  else if id = 3 then some (andP [pHead, row [84, 27], some_ 1 (row [10]), row [85, 87, 86]])
  else if id = 5 then some (andP [pHead, pRepeated pLink])
  else if id = 11 then some (andP [row [7, 75, 76, 77, 78, 79, 80, 81, 27], some_ 1 (row [82]), row [27], some_ 1 (row [83])])
  else if id = 15 then some (pAuthority)
  else if id = 21 then some (andP [pHead, pRepeated (row [48, 49, 50])])
  else if id = 27 then some (pSpeeds)
  else if id = 42 then some (row [6, 7, 62, 10, 63, 64, 64, 65])
  else if id = 57 then some (row [6, 7, 66, 67, 68])
  else if id = 58 then some (andP [pHead, row [69, 70, 71, 27], some_ 1 (row [72, 73])])
  else if id = 80 then some (andP [pHead, pRepeated (row [56, 57, 58, 59, 60, 61])])
  else none

/-- what is done with a variable: its number and the next state, or an error -/
abbrev Val (σ : Type) := Int → σ → Except Int (Int × σ)
def iterE {σ : Type} (f : σ → Except Int σ) : Nat → σ → Except Int σ
  | 0, s => .ok s
  | n + 1, s => match f s with | .error e => .error e | .ok s' => iterE f n s'
/-- to go through parts -/
def walkL {σ : Type} (val : Val σ) : Parts → Int → σ → Except Int σ
  | .nil, _, s => .ok s
  | .cons v wh l r, last, s =>
    if wh = 0 then match val v s with | .error e => .error e | .ok (n, s') => walkL val r n s'
    else if wh = 1 then match iterE (walkL val l 0) last.toNat s with | .error e => .error e | .ok s' => walkL val r last s'
    else if last = 1 ∨ wh = 3 ∧ last = 2 then match walkL val l 0 s with | .error e => .error e | .ok s' => walkL val r last s'
    else walkL val r last s

/-- two ways to go alike -/
def Alike2 {σ τ : Type} (R : σ → τ → Prop) : Except Int σ → Except Int τ → Prop
  | .error e, .error e' => e = e'
  | .ok s, .ok t => R s t
  | _, _ => False
theorem iter_sim {σ τ : Type} {R : σ → τ → Prop} {f : σ → Except Int σ} {g : τ → Except Int τ} (h : ∀ s t, R s t → Alike2 R (f s) (g t)) : ∀ (n : Nat) (s : σ) (t : τ), R s t → Alike2 R (iterE f n s) (iterE g n t) := by
  intro n
  induction n with
  | zero => intro s t hst; exact hst
  | succ n ih =>
    intro s t hst
    have h1 := h s t hst
    simp only [iterE]
    cases hf : f s <;> cases hg : g t <;> rw [hf, hg] at h1
    · exact h1
    · exact h1.elim
    · exact h1.elim
    · exact ih _ _ h1
theorem walk_sim {σ τ : Type} {R : σ → τ → Prop} {val : Val σ} {val' : Val τ} (h : ∀ v s t, R s t → Alike2 (fun a b => a.1 = b.1 ∧ R a.2 b.2) (val v s) (val' v t)) :
    ∀ (T : Parts) (last : Int) (s : σ) (t : τ), R s t → Alike2 R (walkL val T last s) (walkL val' T last t) := by
  intro T
  induction T with
  | nil => intro last s t hst; exact hst
  | cons v wh l r ihl ihr =>
    intro last s t hst
    simp only [walkL]
    by_cases h0 : wh = 0
    · rw [if_pos h0, if_pos h0]
      have h1 := h v s t hst
      rcases hf : val v s with e | ⟨n, s'⟩ <;> rcases hg : val' v t with e' | ⟨n', t'⟩ <;> rw [hf, hg] at h1
      · exact h1
      · exact h1.elim
      · exact h1.elim
      · obtain ⟨rfl, h2⟩ := h1
        exact ihr _ _ _ h2
    · rw [if_neg h0, if_neg h0]
      by_cases h1 : wh = 1
      · rw [if_pos h1, if_pos h1]
        have h2 := iter_sim (fun s t hst => ihl 0 s t hst) last.toNat s t hst
        cases hf : iterE (walkL val l 0) last.toNat s <;> cases hg : iterE (walkL val' l 0) last.toNat t <;> rw [hf, hg] at h2
        · exact h2
        · exact h2.elim
        · exact h2.elim
        · exact ihr _ _ _ h2
      · rw [if_neg h1, if_neg h1]
        by_cases h2 : last = 1 ∨ wh = 3 ∧ last = 2
        · rw [if_pos h2, if_pos h2]
          have h3 := ihl 0 s t hst
          cases hf : walkL val l 0 s <;> cases hg : walkL val' l 0 t <;> rw [hf, hg] at h3
          · exact h3
          · exact h3.elim
          · exact h3.elim
          · exact ihr _ _ _ h3
        · rw [if_neg h2, if_neg h2]
          exact ihr _ _ _ hst

/-- what holds along the way -/
theorem iter_inv {σ : Type} {I : σ → σ → Prop} (hr : ∀ s, I s s) (ht : ∀ a b c, I a b → I b c → I a c) {f : σ → Except Int σ} (h : ∀ s s', f s = .ok s' → I s s') : ∀ (n : Nat) (s s' : σ), iterE f n s = .ok s' → I s s' := by
  intro n
  induction n with
  | zero => intro s s' hs; injection hs with hs; subst hs; exact hr s
  | succ n ih =>
    intro s s' hs
    simp only [iterE] at hs
    cases hf : f s with
    | error e => rw [hf] at hs; cases hs
    | ok s1 => rw [hf] at hs; exact ht _ _ _ (h _ _ hf) (ih _ _ hs)
theorem walk_inv {σ : Type} {I : σ → σ → Prop} (hr : ∀ s, I s s) (ht : ∀ a b c, I a b → I b c → I a c) {val : Val σ} (h : ∀ v s n s', val v s = .ok (n, s') → I s s') :
    ∀ (T : Parts) (last : Int) (s s' : σ), walkL val T last s = .ok s' → I s s' := by
  intro T
  induction T with
  | nil => intro last s s' hs; injection hs with hs; subst hs; exact hr s
  | cons v wh l r ihl ihr =>
    intro last s s' hs
    simp only [walkL] at hs
    by_cases h0 : wh = 0
    · rw [if_pos h0] at hs
      rcases hf : val v s with e | ⟨n, s1⟩
      · rw [hf] at hs; cases hs
      · rw [hf] at hs; exact ht _ _ _ (h _ _ _ _ hf) (ihr _ _ _ hs)
    · rw [if_neg h0] at hs
      by_cases h1 : wh = 1
      · rw [if_pos h1] at hs
        cases hf : iterE (walkL val l 0) last.toNat s with
        | error e => rw [hf] at hs; cases hs
        | ok s1 => rw [hf] at hs; exact ht _ _ _ (iter_inv hr ht (fun a b => ihl 0 a b) _ _ _ hf) (ihr _ _ _ hs)
      · rw [if_neg h1] at hs
        by_cases h2 : last = 1 ∨ wh = 3 ∧ last = 2
        · rw [if_pos h2] at hs
          cases hf : walkL val l 0 s with
          | error e => rw [hf] at hs; cases hs
          | ok s1 => rw [hf] at hs; exact ht _ _ _ (ihl _ _ _ hf) (ihr _ _ _ hs)
        · rw [if_neg h2] at hs
          exact ihr _ _ _ hs

end Go.Proofs.YtiebjnibmomcjaaDoor
