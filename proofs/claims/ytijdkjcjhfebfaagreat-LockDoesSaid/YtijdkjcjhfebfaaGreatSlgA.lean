/- Chapter 15: SpanLong, the plain law: what a way without an edge twice goes over. -/
import Derived.Test.YtijdkjcjhfebfaaGreatTopI
import Derived.Test.YtijdkjcjhfebfaaGreatBdTopP
namespace Go.Proofs.YtijdkjcjhfebfaaGreat
open Go.RowKit

/-- where along its step a decimetre lies -/
def posM (es : List Int) (s : Stp) (a : Int) : Int := if s.2 = true then es.getD s.1.toNat 0 - 1 - a else a
theorem cut_has {es : List Int} {lo hi S e a : Int} {s : Stp} (h0 : 0 ≤ s.1) (h2 : es.getD s.1.toNat 0 ≤ 1000000) :
    (someS (cutS es lo hi S s) && hasS (cutS es lo hi S s) e a) = true ↔ s.1 = e ∧ 0 ≤ a ∧ a < es.getD s.1.toNat 0 ∧ lo ≤ S + posM es s a ∧ S + posM es s a < hi := by
  rw [Bool.and_eq_true, someS_iff, hasS_iff]
  unfold cutS posM
  generalize es.getD s.1.toNat 0 = v at *
  split <;> simp only <;> omega
theorem good_pos {es : List Int} {p : List Stp} (h : goodM es p) {k : Nat} {s : Stp} (hs : p[k]? = some s) : 0 ≤ s.1 ∧ 1 ≤ es.getD s.1.toNat 0 ∧ es.getD s.1.toNat 0 ≤ 1000000 := by
  obtain ⟨j, h1, _, v, _, h3, h4, h5⟩ := good_at h hs
  exact ⟨by omega, by omega, by omega⟩
theorem overK_has {es : List Int} {p : List Stp} {lo hi : Int} (hg : goodM es p) (e a : Int) : ∀ k, k ≤ p.length → (hasL (overK es lo hi p k) e a = true ↔ ∃ i s, i < k ∧ p[i]? = some s ∧ s.1 = e ∧ 0 ≤ a ∧ a < es.getD s.1.toNat 0 ∧ lo ≤ sumM es (p.take i) + posM es s a ∧ sumM es (p.take i) + posM es s a < hi)
  | 0, _ => by
    constructor
    · intro h; simp [overK, hasL] at h
    · rintro ⟨i, _, h, _⟩; omega
  | k + 1, hk => by
    have hs : p[k]? = some p[k] := List.getElem?_eq_getElem (by omega)
    obtain ⟨g1, g2, g3⟩ := good_pos hg hs
    rw [overK_at hs, hasL_app, Bool.or_eq_true, overK_has hg e a k (by omega), hasL_cons, hasL_nil, Bool.or_false, cut_has g1 g3]
    constructor
    · rintro (⟨i, s, hi, r⟩ | h)
      · exact ⟨i, s, by omega, r⟩
      · exact ⟨k, _, by omega, hs, h⟩
    · rintro ⟨i, s, hi, hs', r⟩
      by_cases h : i = k
      · subst h
        rw [hs] at hs'
        injection hs' with hs'
        subst hs'
        exact .inr r
      · exact .inl ⟨i, s, by omega, hs', r⟩
/-- no edge twice -/
def onceM (p : List Stp) : Prop := ∀ (i k : Nat) (s u : Stp), p[i]? = some s → p[k]? = some u → s.1 = u.1 → i = k
theorem cnt_one {s : Sp} {m : List Sp} (h : NormOf [s] m) (h0 : 0 ≤ s.1) (h1 : 0 ≤ s.2.1) (h2 : s.2.2 ≤ 1000000) : cntL m = max 0 (s.2.2 - s.2.1) := by
  by_cases hc : s.2.1 < s.2.2
  · have hn : NormalS [s] := ⟨by intro x hx; simp at hx; subst hx; rw [someS_iff]; omega, by simp⟩
    rw [h.one (NormOf.self hn)]
    simp [cntL]; omega
  · have he : someS s = false := by rw [← not_true_iff, someS_iff]; omega
    have : m = [] := normal_one h.1 NormalS.nil (fun e a => by rw [h.2, hasL_cons, he, Bool.false_and, Bool.false_or])
    subst this
    simp [cntL]; omega
theorem over_cnt {es : List Int} {p : List Stp} {lo hi : Int} (hg : goodM es p) (ho : onceM p) (h0 : 0 ≤ lo) (h1 : lo ≤ hi) : ∀ k, k ≤ p.length → ∀ m, NormOf (overK es lo hi p k) m → cntL m = max 0 (min hi (sumM es (p.take k)) - lo)
  | 0, _, m, h => by
    have : m = [] := h.one (NormOf.self (l := []) NormalS.nil)
    subst this
    simp [cntL, sumM]; omega
  | k + 1, hk, m, h => by
    have hs : p[k]? = some p[k] := List.getElem?_eq_getElem (by omega)
    obtain ⟨g1, g2, g3⟩ := good_pos hg hs
    have hst := sum_step hg hs
    have hrg := (sum_good hg k (by omega)).1
    have hf := form_norm (overK es lo hi p k)
    have hc := form_norm [cutS es lo hi (sumM es (p.take k)) p[k]]
    have ih := over_cnt hg ho h0 h1 k (by omega) _ hf
    have hcn : cntL (FormM [cutS es lo hi (sumM es (p.take k)) p[k]] [] (true, false, false)) = max 0 ((cutS es lo hi (sumM es (p.take k)) p[k]).2.2 - (cutS es lo hi (sumM es (p.take k)) p[k]).2.1) := by
      refine cnt_one hc ?_ ?_ ?_
      · unfold cutS; split <;> exact g1
      · unfold cutS; split <;> simp only <;> omega
      · unfold cutS; split <;> simp only <;> omega
    have hp := cnt_parts (a := m) h.1 hf.1 hc.1 (fun e x => by rw [h.2, hf.2, hc.2, overK_at hs, hasL_app]) (fun e x hx => by
      rw [hf.2, hc.2, overK_has hg e x k (by omega), hasL_cons, hasL_nil, Bool.or_false, cut_has g1 g3] at hx
      obtain ⟨⟨i, s, hi, hs', he, _⟩, he', _⟩ := hx
      have := ho i k s _ hs' hs (he.trans he'.symm)
      omega)
    have hw : (cutS es lo hi (sumM es (p.take k)) p[k]).2.2 - (cutS es lo hi (sumM es (p.take k)) p[k]).2.1 = min (hi - sumM es (p.take k)) (es.getD p[k].1.toNat 0) - max (lo - sumM es (p.take k)) 0 := by
      unfold cutS; split <;> simp only <;> omega
    rw [hw] at hcn
    rw [← hp, ih, hcn, hst]
    generalize es.getD p[k].1.toNat 0 = v at *
    generalize sumM es (p.take k) = S at *
    omega
theorem over_all {es : List Int} {p : List Stp} {lo hi : Int} (hg : goodM es p) (ho : onceM p) (h0 : 0 ≤ lo) (h1 : lo ≤ hi) (h2 : hi ≤ sumM es p) {m : List Sp} (h : NormOf (overK es lo hi p p.length) m) : cntL m = hi - lo := by
  rw [over_cnt hg ho h0 h1 p.length (Nat.le_refl _) m h, List.take_length]
  omega
/-- the pieces between -/
theorem over_join {es : List Int} {p : List Stp} {a b c : Int} (hg : goodM es p) (h1 : a ≤ b) (h2 : b ≤ c) {x y u z : List Sp} (hx : NormOf (overK es a b p p.length) x) (hy : NormOf (overK es b c p p.length) y) (hu : NormOf (x ++ y) u) (hz : NormOf (overK es a c p p.length) z) : u = z := by
  refine normal_one hu.1 hz.1 fun e q => ?_
  rw [hu.2, hasL_app, hx.2, hy.2, hz.2]
  apply bool_ext
  rw [Bool.or_eq_true, overK_has hg e q _ (Nat.le_refl _), overK_has hg e q _ (Nat.le_refl _), overK_has hg e q _ (Nat.le_refl _)]
  constructor
  · rintro (⟨i, s, r1, r2, r3, r4, r5, r6, r7⟩ | ⟨i, s, r1, r2, r3, r4, r5, r6, r7⟩)
    · exact ⟨i, s, r1, r2, r3, r4, r5, r6, by omega⟩
    · exact ⟨i, s, r1, r2, r3, r4, r5, by omega, r7⟩
  · rintro ⟨i, s, r1, r2, r3, r4, r5, r6, r7⟩
    by_cases h : sumM es (p.take i) + posM es s q < b
    · exact .inl ⟨i, s, r1, r2, r3, r4, r5, r6, h⟩
    · exact .inr ⟨i, s, r1, r2, r3, r4, r5, by omega, r7⟩
theorem over_apart {es : List Int} {p : List Stp} {a b c : Int} (hg : goodM es p) (ho : onceM p) {x y : List Sp} (hx : NormOf (overK es a b p p.length) x) (hy : NormOf (overK es b c p p.length) y) {r : Bool} (h : meetsB x y r) : r = false := by
  rw [← not_true_iff]
  intro hr
  obtain ⟨e, q, h1, h2⟩ := h.1 hr
  rw [hx.2, overK_has hg e q _ (Nat.le_refl _)] at h1
  rw [hy.2, overK_has hg e q _ (Nat.le_refl _)] at h2
  obtain ⟨i, s, r1, r2, r3, r4, r5, r6, r7⟩ := h1
  obtain ⟨i', s', q1, q2, q3, q4, q5, q6, q7⟩ := h2
  have := ho i i' s s' r2 q2 (r3.trans q3.symm)
  subst this
  rw [r2] at q2
  injection q2 with q2
  subst q2
  omega

def backM (p : List Stp) : List Stp := p.reverse.map flipM
theorem backM_len (p : List Stp) : (backM p).length = p.length := by simp [backM]
theorem backM_at {p : List Stp} {k : Nat} (h : k < p.length) : (backM p)[k]? = (p[p.length - 1 - k]?).map flipM := by
  unfold backM
  rw [List.getElem?_map, List.getElem?_reverse h]
theorem wayM_back (J : List Jt) (p : List Stp) (h : wayM J p = true) : wayM J (backM p) = true := by
  refine wayM_t fun k hk => ?_
  rw [backM_len] at hk
  unfold wayM at h
  rw [List.all_eq_true] at h
  have h1 := h (p.length - 1 - (k + 1)) (List.mem_range.2 (by omega))
  have hs : p[p.length - 1 - (k + 1)]? = some p[p.length - 1 - (k + 1)] := List.getElem?_eq_getElem (by omega)
  have hu : p[p.length - 1 - (k + 1) + 1]? = some p[p.length - 1 - (k + 1) + 1] := List.getElem?_eq_getElem (by omega)
  rw [okAt_eq hs hu] at h1
  have e1 : p.length - 1 - (k + 1) + 1 = p.length - 1 - k := by omega
  rw [okAt_eq (s := flipM p[p.length - 1 - (k + 1) + 1]) (u := flipM p[p.length - 1 - (k + 1)]) (by rw [backM_at (by omega), ← e1, hu]; rfl) (by rw [backM_at (by omega), hs]; rfl), mayB_flip]
  exact h1
def plainS (es : List Int) (p : List Stp) : Int := (p.map fun s => es.getD s.1.toNat 0).sum
theorem sum_plain {es : List Int} {p : List Stp} (h : goodM es p) : ∀ k, k ≤ p.length → sumM es (p.take k) = plainS es (p.take k)
  | 0, _ => rfl
  | k + 1, hk => by
    have hs : p[k]? = some p[k] := List.getElem?_eq_getElem (by omega)
    rw [sum_step h hs, sum_plain h k (by omega)]
    unfold plainS
    rw [List.take_add_one, hs, List.map_append, List.sum_append]
    simp
theorem back_good {es : List Int} {p : List Stp} (h : goodM es p) : goodM es (backM p) := by
  refine ⟨h.1, fun s hs => ?_, by rw [backM_len]; exact h.2.2⟩
  obtain ⟨u, hu, rfl⟩ := List.mem_map.1 hs
  exact h.2.1 u (List.mem_reverse.1 hu)
theorem back_sum {es : List Int} {p : List Stp} (h : goodM es p) : sumM es (backM p) = sumM es p := by
  have e1 := sum_plain h p.length (Nat.le_refl _)
  have e2 := sum_plain (back_good h) (backM p).length (Nat.le_refl _)
  rw [List.take_length] at e1 e2
  rw [e1, e2]
  unfold plainS backM
  rw [List.map_map, List.map_reverse, List.sum_reverse]
  rfl
theorem back_once {p : List Stp} (h : onceM p) : onceM (backM p) := by
  intro i k s u hs hu he
  have hi : i < (backM p).length := (List.getElem?_eq_some_iff.1 hs).1
  have hk : k < (backM p).length := (List.getElem?_eq_some_iff.1 hu).1
  rw [backM_len] at hi hk
  rw [backM_at hi] at hs
  rw [backM_at hk] at hu
  obtain ⟨s', h1, rfl⟩ := Option.map_eq_some_iff.1 hs
  obtain ⟨u', h2, rfl⟩ := Option.map_eq_some_iff.1 hu
  have := h _ _ s' u' h1 h2 he
  omega
theorem back_len {t : Tp} {p : List Stp} (h : (lenM t p).2 = 0) (hg : goodM t.1 p) : lenM t (backM p) = lenM t p := by
  unfold lenM at h ⊢
  rw [backM_len]
  split at h
  · simp at h
  rename_i h0
  rw [if_neg h0, if_neg h0]
  split at h
  · rename_i h1
    split at h
    · rename_i h2
      rw [if_pos h1, if_pos h2, if_pos (by rw [List.all_eq_true]; exact (back_good hg).2.1), if_pos (wayM_back _ _ h2), back_sum hg]
    · simp at h
  · simp at h
/-- what is known where the two pieces have no error -/
theorem long_facts {t : Tp} {p : List Stp} {a b c : Int} (h1 : overE t p a b = 0) (h2 : overE t p b c = 0) : goodM t.1 p ∧ (0 ≤ a ∧ a ≤ b ∧ b ≤ c ∧ c ≤ sumM t.1 p) ∧ overE t p a c = 0 ∧ overE t (backM p) 0 (c - a) = 0 := by
  unfold overE at h1 h2
  split at h1
  · rename_i h; exact absurd h1 h
  rename_i g0
  rw [if_neg g0] at h2
  have g0' : (lenM t p).2 = 0 := by simpa using g0
  split at h1
  · simp at h1
  rename_i g1
  split at h2
  · simp at h2
  rename_i g2
  have hw : t.1.any wrongB = false := by rw [← not_true_iff]; exact fun h => g1 (.inl h)
  obtain ⟨hg, hs⟩ := len_good g0' hw
  have i1 : ¬ a < 0 := fun h => g1 (.inr (.inl h))
  have i2 : ¬ a > b := fun h => g1 (.inr (.inr (.inl h)))
  have i3 : ¬ b > c := fun h => g2 (.inr (.inr (.inl h)))
  have i4 : ¬ c > (lenM t p).1 := fun h => g2 (.inr (.inr (.inr h)))
  refine ⟨hg, ⟨by omega, by omega, by omega, by omega⟩, ?_, ?_⟩
  · unfold overE
    rw [if_neg g0, if_neg]
    rintro (h | h | h | h)
    · rw [hw] at h; cases h
    · omega
    · omega
    · omega
  · unfold overE
    rw [back_len g0' hg, if_neg g0, if_neg]
    rintro (h | h | h | h)
    · rw [hw] at h; cases h
    · omega
    · omega
    · omega

end Go.Proofs.YtijdkjcjhfebfaaGreat
