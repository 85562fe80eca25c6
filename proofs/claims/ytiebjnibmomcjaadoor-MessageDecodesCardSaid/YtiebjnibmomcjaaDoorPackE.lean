/- Chapter 5, plain: items and bits of a packet: the two ways through the parts, and their traces. -/
import Derived.Test.YtiebjnibmomcjaaDoorPackD
import Derived.Test.YtiebjnibmomcjaaDoorBitsY
namespace Go.Proofs.YtiebjnibmomcjaaDoor
open Go.RowKit

/-- the numbers of a packet that are left; the variables with their numbers so far -/
structure SI where
  rest : List Int
  out : List (Int × Int)
/-- the bits that are left; L_PACKET's number; the other numbers -/
structure SG where
  bits : List Bool
  size : Int
  V : List Int

def valI : Val SI := fun v s =>
  if v = 7 then .ok (0, ⟨s.rest, s.out ++ [(7, 0)]⟩)
  else match s.rest with
    | [] => .error 20
    | n :: t => if vMay v n = true then .ok (n, ⟨t, s.out ++ [(v, n)]⟩) else .error 20
def valG : Val SG := fun v s =>
  if getE s.bits.length (vWidth v) ≠ 0 then .error (getE s.bits.length (vWidth v))
  else if vMay v (getN s.bits (vWidth v)) = true then
    .ok (getN s.bits (vWidth v), if v = 7 then ⟨getL s.bits (vWidth v), getN s.bits (vWidth v), s.V⟩ else ⟨getL s.bits (vWidth v), s.size, s.V ++ [getN s.bits (vWidth v)]⟩)
  else .error 20
/-- what is in a trace -/
def valT : Val (List (Int × Int)) := fun v tr => match tr with
  | [] => .error 0
  | (v', n) :: t => if v' = v then .ok (if v = 7 then 0 else n, t) else .error 0

/-- L_PACKET's number counts for nothing -/
def noLast {σ : Type} (val : Val σ) : Val σ := fun v s => match val v s with
  | .error e => .error e
  | .ok (n, s') => .ok (if v = 7 then 0 else n, s')
/-- behind L_PACKET stands no bracket -/
def headLeaf : Parts → Bool
  | .nil => true
  | .cons _ wh _ _ => wh == 0
def calm : Parts → Bool
  | .nil => true
  | .cons v wh l r => (if wh == 0 then (v != 7 || headLeaf r) else calm l) && calm r
theorem walk_headLeaf {σ : Type} (val : Val σ) {T : Parts} (h : headLeaf T = true) (a b : Int) (s : σ) : walkL val T a s = walkL val T b s := by
  cases T with
  | nil => rfl
  | cons v wh l r =>
    have : wh = 0 := by simpa [headLeaf] using h
    subst this
    rfl
theorem iter_congr {σ : Type} {f g : σ → Except Int σ} (h : ∀ s, f s = g s) : ∀ (n : Nat) (s : σ), iterE f n s = iterE g n s := by
  have : f = g := funext h
  intro n s; rw [this]
theorem walk_noLast {σ : Type} (val : Val σ) : ∀ (T : Parts), calm T = true → ∀ (last : Int) (s : σ), walkL (noLast val) T last s = walkL val T last s := by
  intro T
  induction T with
  | nil => intro _ last s; rfl
  | cons v wh l r ihl ihr =>
    intro hc last s
    simp only [calm, Bool.and_eq_true] at hc
    obtain ⟨h1, h2⟩ := hc
    simp only [walkL]
    by_cases h0 : wh = 0
    · subst h0
      simp only [if_true, beq_self_eq_true, noLast] at h1 ⊢
      rcases hf : val v s with e | ⟨n, s'⟩
      · rfl
      · simp only
        rw [ihr h2]
        by_cases h7 : v = 7
        · subst h7
          rw [if_pos rfl]
          exact walk_headLeaf val (by simpa using h1) _ _ _
        · rw [if_neg h7]
    · have hw : (wh == 0) = false := by simpa using h0
      rw [hw] at h1
      simp only [Bool.false_eq_true, if_false] at h1
      rw [if_neg h0, if_neg h0, iter_congr (fun s => ihl h1 0 s) last.toNat s]
      simp only [ihl h1, ihr h2]

def mayAll (tr : List (Int × Int)) : Prop := ∀ x ∈ tr, vMay x.1 x.2 = true
/-- the numbers but L_PACKET's -/
def nums : List (Int × Int) → List Int
  | [] => []
  | (v, n) :: t => if v = 7 then nums t else n :: nums t
theorem nums_app (a b : List (Int × Int)) : nums (a ++ b) = nums a ++ nums b := by
  induction a with
  | nil => rfl
  | cons x a ih =>
    obtain ⟨v, n⟩ := x
    simp only [List.cons_append, nums]
    split <;> simp [ih]
/-- L_PACKET's number put in -/
def put7 (m : Int) (tr : List (Int × Int)) : List (Int × Int) := tr.map fun x => if x.1 = 7 then (7, m) else x
theorem put7_app (m : Int) (a b : List (Int × Int)) : put7 m (a ++ b) = put7 m a ++ put7 m b := by simp [put7]
theorem nums_put7 (m : Int) (tr : List (Int × Int)) : nums (put7 m tr) = nums tr := by
  induction tr with
  | nil => rfl
  | cons x a ih =>
    obtain ⟨v, n⟩ := x
    by_cases h : v = 7
    · simpa [put7, nums, h] using ih
    · simpa [put7, nums, h] using ih
/-- the bits -/
def layT (tr : List (Int × Int)) : List Bool := tr.flatMap fun x => bitsOf x.2.toNat (vWidth x.1).toNat
theorem layT_app (a b : List (Int × Int)) : layT (a ++ b) = layT a ++ layT b := by simp [layT]
/-- the last L_PACKET's number -/
def last7 (z : Int) : List (Int × Int) → Int
  | [] => z
  | (v, n) :: t => if v = 7 then last7 n t else last7 z t
theorem last7_app (z : Int) (a b : List (Int × Int)) : last7 z (a ++ b) = last7 (last7 z a) b := by
  induction a generalizing z with
  | nil => rfl
  | cons x a ih =>
    obtain ⟨v, n⟩ := x
    simp only [List.cons_append, last7]
    split <;> exact ih _

theorem getL_eq {l : List Bool} {k : Int} (h : getE l.length k = 0) : getL l k = l.drop k.toNat := by
  have := getE_zero h
  rw [getL, if_neg (by omega)]
theorem getN_eq {l : List Bool} {k : Int} (h : getE l.length k = 0) : getN l k = numOf (l.take k.toNat) := by
  have := getE_zero h
  rw [getN, if_neg (by omega)]
theorem vMay_range {v n : Int} (h : vMay v n = true) : 1 ≤ vWidth v ∧ vWidth v ≤ 32 ∧ 0 ≤ n ∧ n < ((2 ^ (vWidth v).toNat : Nat) : Int) := by
  have := vWidth_range v
  simp only [vMay, decide_eq_true_eq] at h
  omega

/-- one way leads the other, or the other falls by an error of E -/
theorem iter_or {σ τ : Type} {E : Int → Prop} {R : σ → τ → Prop} {f : σ → Except Int σ} {g : τ → Except Int τ} (h : ∀ s t s', R s t → f s = .ok s' → (∃ t', g t = .ok t' ∧ R s' t') ∨ ∃ e, E e ∧ g t = .error e) :
    ∀ (n : Nat) (s : σ) (t : τ) (s' : σ), R s t → iterE f n s = .ok s' → (∃ t', iterE g n t = .ok t' ∧ R s' t') ∨ ∃ e, E e ∧ iterE g n t = .error e := by
  intro n
  induction n with
  | zero => intro s t s' hst hs; injection hs with hs; subst hs; exact .inl ⟨t, rfl, hst⟩
  | succ n ih =>
    intro s t s' hst hs
    simp only [iterE] at hs ⊢
    cases hf : f s with
    | error e => rw [hf] at hs; cases hs
    | ok s1 =>
      rw [hf] at hs
      rcases h s t s1 hst hf with ⟨t1, h1, h2⟩ | ⟨e, he, h1⟩
      · rw [h1]; exact ih _ _ _ h2 hs
      · rw [h1]; exact .inr ⟨e, he, rfl⟩
theorem walk_or {σ τ : Type} {E : Int → Prop} {R : σ → τ → Prop} {val : Val σ} {val' : Val τ} (h : ∀ v s t n s', R s t → val v s = .ok (n, s') → (∃ t', val' v t = .ok (n, t') ∧ R s' t') ∨ ∃ e, E e ∧ val' v t = .error e) :
    ∀ (T : Parts) (last : Int) (s : σ) (t : τ) (s' : σ), R s t → walkL val T last s = .ok s' → (∃ t', walkL val' T last t = .ok t' ∧ R s' t') ∨ ∃ e, E e ∧ walkL val' T last t = .error e := by
  intro T
  induction T with
  | nil => intro last s t s' hst hs; injection hs with hs; subst hs; exact .inl ⟨t, rfl, hst⟩
  | cons v wh l r ihl ihr =>
    intro last s t s' hst hs
    simp only [walkL] at hs ⊢
    by_cases h0 : wh = 0
    · rw [if_pos h0] at hs ⊢
      rcases hf : val v s with e | ⟨n, s1⟩
      · rw [hf] at hs; cases hs
      · rw [hf] at hs
        rcases h v s t n s1 hst hf with ⟨t1, h1, h2⟩ | ⟨e, he, h1⟩
        · rw [h1]; exact ihr _ _ _ _ h2 hs
        · rw [h1]; exact .inr ⟨e, he, rfl⟩
    · rw [if_neg h0] at hs ⊢
      by_cases h1 : wh = 1
      · rw [if_pos h1] at hs ⊢
        cases hf : iterE (walkL val l 0) last.toNat s with
        | error e => rw [hf] at hs; cases hs
        | ok s1 =>
          rw [hf] at hs
          rcases iter_or (fun s t s' hst hs => ihl 0 s t s' hst hs) _ s t s1 hst hf with ⟨t1, h1, h2⟩ | ⟨e, he, h1⟩
          · rw [h1]; exact ihr _ _ _ _ h2 hs
          · rw [h1]; exact .inr ⟨e, he, rfl⟩
      · rw [if_neg h1] at hs ⊢
        by_cases h2 : last = 1 ∨ wh = 3 ∧ last = 2
        · rw [if_pos h2] at hs ⊢
          cases hf : walkL val l 0 s with
          | error e => rw [hf] at hs; cases hs
          | ok s1 =>
            rw [hf] at hs
            rcases ihl 0 s t s1 hst hf with ⟨t1, h1, h2⟩ | ⟨e, he, h1⟩
            · rw [h1]; exact ihr _ _ _ _ h2 hs
            · rw [h1]; exact .inr ⟨e, he, rfl⟩
        · rw [if_neg h2] at hs ⊢
          exact ihr _ _ _ _ hst hs
/-- one way leads the other -/
theorem walk_to {σ τ : Type} {R : σ → τ → Prop} {val : Val σ} {val' : Val τ} (h : ∀ v s t n s', R s t → val v s = .ok (n, s') → ∃ t', val' v t = .ok (n, t') ∧ R s' t')
    {T : Parts} {last : Int} {s : σ} {t : τ} {s' : σ} (hR : R s t) (hs : walkL val T last s = .ok s') : ∃ t', walkL val' T last t = .ok t' ∧ R s' t' := by
  rcases walk_or (E := fun _ => False) (R := R) (val := val) (val' := val') (fun v s t n s' a b => .inl (h v s t n s' a b)) T last s t s' hR hs with h | ⟨_, h, _⟩
  · exact h
  · exact h.elim

/-- a trace of parts -/
def Mat (T : Parts) (last : Int) (tr : List (Int × Int)) : Prop := ∀ rest, walkL valT T last (tr ++ rest) = .ok rest
theorem walk_trace {σ : Type} {val : Val σ} {E : σ → List (Int × Int) → σ → Prop} (h0 : ∀ s, E s [] s) (ht : ∀ a x b y c, E a x b → E b y c → E a (x ++ y) c)
    (h : ∀ v s n s', val v s = .ok (n, s') → ∃ m, E s [(v, m)] s' ∧ n = (if v = 7 then 0 else m)) :
    ∀ (T : Parts) (last : Int) (s s' : σ), walkL val T last s = .ok s' → ∃ tr, E s tr s' ∧ Mat T last tr := by
  intro T
  induction T with
  | nil => intro last s s' hs; injection hs with hs; subst hs; exact ⟨[], h0 s, fun _ => rfl⟩
  | cons v wh l r ihl ihr =>
    intro last s s' hs
    simp only [walkL] at hs
    by_cases hw : wh = 0
    · rw [if_pos hw] at hs
      rcases hf : val v s with e | ⟨n, s1⟩
      · rw [hf] at hs; cases hs
      · rw [hf] at hs
        obtain ⟨m, h1, h2⟩ := h _ _ _ _ hf
        obtain ⟨tr, h3, h4⟩ := ihr _ _ _ hs
        refine ⟨(v, m) :: tr, ht _ _ _ _ _ h1 h3, fun rest => ?_⟩
        simp only [walkL, if_pos hw, List.cons_append, valT, if_true]
        rw [← h2]
        exact h4 rest
    · rw [if_neg hw] at hs
      by_cases hw1 : wh = 1
      · rw [if_pos hw1] at hs
        cases hf : iterE (walkL val l 0) last.toNat s with
        | error e => rw [hf] at hs; cases hs
        | ok s1 =>
          rw [hf] at hs
          have hit : ∀ (k : Nat) (s s1 : σ), iterE (walkL val l 0) k s = .ok s1 → ∃ tr, E s tr s1 ∧ ∀ rest, iterE (walkL valT l 0) k (tr ++ rest) = .ok rest := by
            intro k
            induction k with
            | zero => intro s s1 hk; injection hk with hk; subst hk; exact ⟨[], h0 s, fun _ => rfl⟩
            | succ k ihk =>
              intro s s1 hk
              simp only [iterE] at hk
              cases hg : walkL val l 0 s with
              | error e => rw [hg] at hk; cases hk
              | ok s2 =>
                rw [hg] at hk
                obtain ⟨x, h1, h2⟩ := ihl _ _ _ hg
                obtain ⟨y, h3, h4⟩ := ihk _ _ hk
                refine ⟨x ++ y, ht _ _ _ _ _ h1 h3, fun rest => ?_⟩
                simp only [iterE]
                rw [List.append_assoc, h2]
                exact h4 rest
          obtain ⟨x, h1, h2⟩ := hit _ _ _ hf
          obtain ⟨y, h3, h4⟩ := ihr _ _ _ hs
          refine ⟨x ++ y, ht _ _ _ _ _ h1 h3, fun rest => ?_⟩
          simp only [walkL, if_neg hw, if_pos hw1]
          rw [List.append_assoc, h2]
          exact h4 rest
      · rw [if_neg hw1] at hs
        by_cases hw2 : last = 1 ∨ wh = 3 ∧ last = 2
        · rw [if_pos hw2] at hs
          cases hf : walkL val l 0 s with
          | error e => rw [hf] at hs; cases hs
          | ok s1 =>
            rw [hf] at hs
            obtain ⟨x, h1, h2⟩ := ihl _ _ _ hf
            obtain ⟨y, h3, h4⟩ := ihr _ _ _ hs
            refine ⟨x ++ y, ht _ _ _ _ _ h1 h3, fun rest => ?_⟩
            simp only [walkL, if_neg hw, if_neg hw1, if_pos hw2]
            rw [List.append_assoc, h2]
            exact h4 rest
        · rw [if_neg hw2] at hs
          obtain ⟨y, h3, h4⟩ := ihr _ _ _ hs
          refine ⟨y, h3, fun rest => ?_⟩
          simp only [walkL, if_neg hw, if_neg hw1, if_neg hw2]
          exact h4 rest

theorem valT_ok {v n : Int} {s s' : List (Int × Int)} (h : valT v s = .ok (n, s')) : ∃ m, s = (v, m) :: s' ∧ n = if v = 7 then 0 else m := by
  unfold valT at h
  split at h
  · cases h
  · rename_i v' m t
    split at h
    · rename_i hv
      subst hv
      simp only [Except.ok.injEq, Prod.mk.injEq] at h
      obtain ⟨rfl, rfl⟩ := h
      exact ⟨m, rfl, rfl⟩
    · cases h
theorem Mat.put7 {T : Parts} {last : Int} {tr : List (Int × Int)} (h : Mat T last tr) (m : Int) : Mat T last (put7 m tr) := by
  intro rest
  have h1 := h []
  rw [List.append_nil] at h1
  obtain ⟨t', h3, h4⟩ := walk_to (R := fun s t => t = Go.Proofs.YtiebjnibmomcjaaDoor.put7 m s ++ rest) (val := valT) (val' := valT) (by
    intro v s t n s' hR hv
    subst hR
    obtain ⟨x, rfl, rfl⟩ := valT_ok hv
    refine ⟨_, ?_, rfl⟩
    by_cases h7 : v = 7
    · simp [Go.Proofs.YtiebjnibmomcjaaDoor.put7, valT, h7]
    · simp [Go.Proofs.YtiebjnibmomcjaaDoor.put7, valT, h7]) (t := Go.Proofs.YtiebjnibmomcjaaDoor.put7 m tr ++ rest) rfl h1
  rw [h3, h4]; rfl

/-- items are gone through as their trace says -/
def StepI (s : SI) (tr : List (Int × Int)) (s' : SI) : Prop := s'.out = s.out ++ tr ∧ nums tr ++ s'.rest = s.rest ∧ ∀ x ∈ tr, (x.1 = 7 ∧ x.2 = 0) ∨ (x.1 ≠ 7 ∧ vMay x.1 x.2 = true)
theorem I_trace {T : Parts} {last : Int} {s s' : SI} (h : walkL valI T last s = .ok s') : ∃ tr, StepI s tr s' ∧ Mat T last tr := by
  refine walk_trace (E := StepI) (fun s => ⟨by simp, rfl, by simp⟩) ?_ ?_ T last s s' h
  · rintro a x b y c ⟨h1, h2, h3⟩ ⟨h4, h5, h6⟩
    refine ⟨by rw [h4, h1, List.append_assoc], by rw [nums_app, List.append_assoc, h5, h2], fun z hz => ?_⟩
    rcases List.mem_append.1 hz with hz | hz
    · exact h3 z hz
    · exact h6 z hz
  · intro v s n s' h
    unfold valI at h
    by_cases h7 : v = 7
    · rw [if_pos h7] at h
      simp only [Except.ok.injEq, Prod.mk.injEq] at h
      obtain ⟨rfl, rfl⟩ := h
      subst h7
      exact ⟨0, ⟨rfl, rfl, by simp⟩, rfl⟩
    · rw [if_neg h7] at h
      split at h
      · cases h
      · rename_i m t hr
        split at h
        · rename_i hm
          simp only [Except.ok.injEq, Prod.mk.injEq] at h
          obtain ⟨rfl, rfl⟩ := h
          exact ⟨m, ⟨rfl, by simp [nums, h7, hr], by simp [h7, hm]⟩, by rw [if_neg h7]⟩
        · cases h
theorem I_of {T : Parts} {last : Int} {tr : List (Int × Int)} (h : Mat T last tr) (hm : mayAll tr) (r : List Int) (out : List (Int × Int)) : walkL valI T last ⟨nums tr ++ r, out⟩ = .ok ⟨r, out ++ put7 0 tr⟩ := by
  have h1 := h []
  rw [List.append_nil] at h1
  obtain ⟨⟨a, b⟩, h3, _, h4, h5⟩ := walk_to (R := fun t (s : SI) => mayAll t ∧ s.rest = nums t ++ r ∧ s.out ++ put7 0 t = out ++ put7 0 tr) (val := valT) (val' := valI) (by
    rintro v s t n s' ⟨hR1, hR2, hR3⟩ hv
    obtain ⟨x, rfl, rfl⟩ := valT_ok hv
    by_cases h7 : v = 7
    · subst h7
      refine ⟨⟨t.rest, t.out ++ [(7, 0)]⟩, by simp [valI], fun y hy => hR1 y (by simp [hy]), by simpa [nums] using hR2, ?_⟩
      rw [← hR3]; simp [put7]
    · have hx := hR1 (v, x) (by simp)
      refine ⟨⟨nums s' ++ r, t.out ++ [(v, x)]⟩, ?_, fun y hy => hR1 y (by simp [hy]), rfl, ?_⟩
      · simp [valI, h7, hR2, nums, hx]
      · rw [← hR3]; simp [put7, h7]) (t := ⟨nums tr ++ r, out⟩) ⟨hm, rfl, rfl⟩ h1
  simp only [nums, List.nil_append, put7, List.map_nil, List.append_nil] at h4 h5
  rw [h3, h4, h5]; rfl

/-- bits are gone through as their trace says -/
def StepG (s : SG) (tr : List (Int × Int)) (s' : SG) : Prop := s.bits = layT tr ++ s'.bits ∧ s'.V = s.V ++ nums tr ∧ s'.size = last7 s.size tr ∧ mayAll tr
theorem valG_one {v : Int} {bits : List Bool} (h : getE bits.length (vWidth v) = 0) : bits = layT [(v, getN bits (vWidth v))] ++ getL bits (vWidth v) := by
  have hr := getE_zero h
  have h1 := getL_eq h
  have h2 := getN_eq h
  have h3 := bitsOf_numOf (bits.take (vWidth v).toNat)
  rw [List.length_take, Nat.min_eq_left (by omega)] at h3
  rw [h1, h2]
  simp only [layT, List.flatMap_cons, List.flatMap_nil, List.append_nil, Int.toNat_natCast]
  rw [h3, List.take_append_drop]
theorem G_trace {T : Parts} {last : Int} {s s' : SG} (hc : calm T = true) (h : walkL valG T last s = .ok s') : ∃ tr, StepG s tr s' ∧ Mat T last tr := by
  rw [← walk_noLast valG T hc] at h
  refine walk_trace (E := StepG) (fun s => ⟨rfl, by simp [nums], rfl, by intro x hx; simp at hx⟩) ?_ ?_ T last s s' h
  · rintro a x b y c ⟨h1, h2, h3, h4⟩ ⟨h5, h6, h7, h8⟩
    refine ⟨by rw [h1, h5, layT_app, List.append_assoc], by rw [h6, h2, nums_app, List.append_assoc], by rw [h7, h3, last7_app], fun z hz => ?_⟩
    rcases List.mem_append.1 hz with hz | hz
    · exact h4 z hz
    · exact h8 z hz
  · intro v s n s' h
    unfold noLast at h
    cases hg : valG v s with
    | error e => rw [hg] at h; cases h
    | ok x =>
      obtain ⟨m, s1⟩ := x
      rw [hg] at h
      simp only [Except.ok.injEq, Prod.mk.injEq] at h
      obtain ⟨rfl, rfl⟩ := h
      unfold valG at hg
      by_cases he : getE s.bits.length (vWidth v) ≠ 0
      · rw [if_pos he] at hg; cases hg
      · rw [if_neg he] at hg
        have he' : getE s.bits.length (vWidth v) = 0 := by simpa using he
        by_cases hm : vMay v (getN s.bits (vWidth v)) = true
        · rw [if_pos hm] at hg
          simp only [Except.ok.injEq, Prod.mk.injEq] at hg
          obtain ⟨rfl, rfl⟩ := hg
          refine ⟨getN s.bits (vWidth v), ⟨?_, ?_, ?_, ?_⟩, rfl⟩
          · have := valG_one he'
            split <;> exact this
          · by_cases h7 : v = 7
            · simp [h7, nums]
            · simp [h7, nums]
          · by_cases h7 : v = 7
            · simp [h7, last7]
            · simp [h7, last7]
          · intro x hx
            simp only [List.mem_singleton] at hx
            subst hx
            exact hm
        · rw [if_neg hm] at hg; cases hg
/-- what the front of laid bits is -/
theorem valG_lay {v x : Int} (hx : vMay v x = true) (t : List Bool) (size : Int) (V : List Int) :
    valG v ⟨bitsOf x.toNat (vWidth v).toNat ++ t, size, V⟩ = .ok (x, if v = 7 then ⟨t, x, V⟩ else ⟨t, size, V ++ [x]⟩) := by
  have hr := vMay_range hx
  have hl : (bitsOf x.toNat (vWidth v).toNat ++ t).length = (vWidth v).toNat + t.length := by rw [List.length_append, length_bitsOf]
  have he : getE (bitsOf x.toNat (vWidth v).toNat ++ t).length (vWidth v) = 0 := by rw [hl, getE, if_neg (by omega), if_neg (by omega)]
  have h1 := getL_eq he
  have h2 := getN_eq he
  rw [List.drop_left' (length_bitsOf _ _)] at h1
  rw [List.take_left' (length_bitsOf _ _), numOf_bitsOf, Nat.mod_eq_of_lt (by omega)] at h2
  have h3 : ((x.toNat : Nat) : Int) = x := Int.toNat_of_nonneg hr.2.2.1
  rw [h3] at h2
  simp only [valG]
  rw [if_neg (by simpa using he), h2, if_pos hx, h1]
theorem G_of {T : Parts} {last : Int} {tr : List (Int × Int)} (hc : calm T = true) (h : Mat T last tr) (hm : mayAll tr) (r : List Bool) (size : Int) (V : List Int) :
    walkL valG T last ⟨layT tr ++ r, size, V⟩ = .ok ⟨r, last7 size tr, V ++ nums tr⟩ := by
  have h1 := h []
  rw [List.append_nil] at h1
  rw [← walk_noLast valG T hc]
  obtain ⟨⟨a, b, c⟩, h3, _, h4, h5, h6⟩ := walk_to (R := fun t (s : SG) => mayAll t ∧ s.bits = layT t ++ r ∧ last7 s.size t = last7 size tr ∧ s.V ++ nums t = V ++ nums tr) (val := valT) (val' := noLast valG) (by
    rintro v s ⟨tb, tsz, tV⟩ n s' ⟨hR1, hR2, hR3, hR4⟩ hv
    obtain ⟨x, rfl, rfl⟩ := valT_ok hv
    simp only at hR2 hR3 hR4
    subst hR2
    have hx := hR1 (v, x) (by simp)
    have e : layT ((v, x) :: s') ++ r = bitsOf x.toNat (vWidth v).toNat ++ (layT s' ++ r) := by simp [layT]
    rw [e]
    refine ⟨_, by unfold noLast; rw [valG_lay hx], ?_⟩
    by_cases h7 : v = 7
    · subst h7
      rw [if_pos rfl]
      exact ⟨fun y hy => hR1 y (by simp [hy]), rfl, by simpa [last7] using hR3, by simpa [nums] using hR4⟩
    · rw [if_neg h7]
      exact ⟨fun y hy => hR1 y (by simp [hy]), rfl, by simpa [last7, h7] using hR3, by simpa [nums, h7] using hR4⟩) (t := ⟨layT tr ++ r, size, V⟩) ⟨hm, rfl, rfl, rfl⟩ h1
  simp only [nums, layT, last7, List.flatMap_nil, List.nil_append, List.append_nil] at h4 h5 h6
  rw [h3, h4, h5, h6]
/-- bits that are cut off fall short -/
theorem G_cut {T : Parts} {last : Int} {tr : List (Int × Int)} (hc : calm T = true) (h : Mat T last tr) (hm : mayAll tr) (k : Nat) (hk : k < (layT tr).length) (size : Int) (V : List Int) :
    walkL valG T last ⟨(layT tr).take k, size, V⟩ = .error 10 := by
  have h1 := h []
  rw [List.append_nil] at h1
  rw [← walk_noLast valG T hc]
  have h2 := walk_or (E := fun e => e = 10) (R := fun t (s : SG) => mayAll t ∧ ∃ k, k < (layT t).length ∧ s.bits = (layT t).take k) (val := valT) (val' := noLast valG) (by
    rintro v s ⟨tb, tsz, tV⟩ n s' ⟨hR1, k, hk, hR2⟩ hv
    obtain ⟨x, rfl, rfl⟩ := valT_ok hv
    simp only at hR2
    subst hR2
    have hx := hR1 (v, x) (by simp)
    have hr := vMay_range (v := v) (n := x) hx
    have e : layT ((v, x) :: s') = bitsOf x.toNat (vWidth v).toNat ++ layT s' := by simp [layT]
    rw [e, List.length_append, length_bitsOf] at hk
    rw [e]
    by_cases hs : (vWidth v).toNat ≤ k
    · left
      rw [List.take_append, List.take_of_length_le (by rw [length_bitsOf]; exact hs), length_bitsOf]
      refine ⟨_, by unfold noLast; rw [valG_lay hx], fun y hy => hR1 y (by simp [hy]), k - (vWidth v).toNat, by omega, ?_⟩
      split <;> rfl
    · right
      refine ⟨10, rfl, ?_⟩
      unfold noLast
      have hl : ((bitsOf x.toNat (vWidth v).toNat ++ layT s').take k).length = k := by rw [List.length_take, List.length_append, length_bitsOf]; omega
      have he : getE ((bitsOf x.toNat (vWidth v).toNat ++ layT s').take k).length (vWidth v) = 10 := by rw [hl, getE, if_neg (by omega), if_pos (by omega)]
      simp only [valG]
      rw [if_pos (by rw [he]; decide), he]) T last tr ⟨(layT tr).take k, size, V⟩ [] ⟨hm, k, hk, rfl⟩ h1
  rcases h2 with ⟨t', _, _, k', hk', _⟩ | ⟨e, rfl, h3⟩
  · simp [layT] at hk'
  · exact h3

/-- the packets that there are -/
def pids : List Int := [0, 1, 3, 5, 11, 15, 21, 27, 42, 57, 58, 80]
theorem ptree_id {id : Int} {T : Parts} (h : ptree id = some T) : id ∈ pids := by
  unfold ptree at h
  by_cases h0 : id = 0; · subst h0; decide
  by_cases h1 : id = 1; · subst h1; decide
  by_cases h3 : id = 3; · subst h3; decide
  by_cases h5 : id = 5; · subst h5; decide
  by_cases h11 : id = 11; · subst h11; decide
  by_cases h15 : id = 15; · subst h15; decide
  by_cases h21 : id = 21; · subst h21; decide
  by_cases h27 : id = 27; · subst h27; decide
  by_cases h42 : id = 42; · subst h42; decide
  by_cases h57 : id = 57; · subst h57; decide
  by_cases h58 : id = 58; · subst h58; decide
  by_cases h80 : id = 80; · subst h80; decide
  simp only [h0, h1, h3, h5, h11, h15, h21, h27, h42, h57, h58, h80, if_false, reduceCtorEq] at h
/-- does it go up? -/
def upP (id : Int) : Bool := decide (id = 0 ∨ id = 1 ∨ id = 11)
def no7 : Parts → Bool
  | .nil => true
  | .cons v wh l r => (if wh = 0 then decide (v ≠ 7) else no7 l) && no7 r
/-- L_PACKET stands first, or second, and nowhere else -/
def lead (id : Int) : Parts → Bool
  | .cons v wh .nil r => if upP id then decide (v = 7 ∧ wh = 0) && no7 r else
      match r with
      | .cons v' wh' .nil r' => decide (v = 6 ∧ wh = 0 ∧ v' = 7 ∧ wh' = 0) && no7 r'
      | _ => false
  | _ => false
def chkP (id : Int) : Bool := match ptree id with
  | none => false
  | some T => decide (T.len ≠ 0) && calm T && lead id T && decide (0 ≤ id ∧ id < 256)
theorem chk_all : pids.all chkP = true := by decide +kernel
theorem ptree_chk {id : Int} {T : Parts} (h : ptree id = some T) : T.len ≠ 0 ∧ calm T = true ∧ lead id T = true ∧ 0 ≤ id ∧ id < 256 := by
  have h1 := List.all_eq_true.1 chk_all id (ptree_id h)
  simp only [chkP, h, Bool.and_eq_true, decide_eq_true_eq] at h1
  exact ⟨h1.1.1.1, h1.1.1.2, h1.1.2, h1.2.1, h1.2.2⟩

/-- what errors there are -/
theorem iter_err {σ : Type} {E : Int → Prop} {f : σ → Except Int σ} (h : ∀ s e, f s = .error e → E e) : ∀ (n : Nat) (s : σ) (e : Int), iterE f n s = .error e → E e := by
  intro n
  induction n with
  | zero => intro s e h; cases h
  | succ n ih =>
    intro s e hs
    simp only [iterE] at hs
    cases hf : f s with
    | error e' => rw [hf] at hs; injection hs with hs; subst hs; exact h _ _ hf
    | ok s1 => rw [hf] at hs; exact ih _ _ hs
theorem walk_err {σ : Type} {E : Int → Prop} {val : Val σ} (h : ∀ v s e, val v s = .error e → E e) : ∀ (T : Parts) (last : Int) (s : σ) (e : Int), walkL val T last s = .error e → E e := by
  intro T
  induction T with
  | nil => intro last s e h; cases h
  | cons v wh l r ihl ihr =>
    intro last s e hs
    simp only [walkL] at hs
    by_cases hw : wh = 0
    · rw [if_pos hw] at hs
      rcases hf : val v s with e' | ⟨n, s1⟩
      · rw [hf] at hs; injection hs with hs; subst hs; exact h _ _ _ hf
      · rw [hf] at hs; exact ihr _ _ _ hs
    · rw [if_neg hw] at hs
      by_cases hw1 : wh = 1
      · rw [if_pos hw1] at hs
        cases hf : iterE (walkL val l 0) last.toNat s with
        | error e' => rw [hf] at hs; injection hs with hs; subst hs; exact iter_err (fun s e => ihl 0 s e) _ _ _ hf
        | ok s1 => rw [hf] at hs; exact ihr _ _ _ hs
      · rw [if_neg hw1] at hs
        by_cases hw2 : last = 1 ∨ wh = 3 ∧ last = 2
        · rw [if_pos hw2] at hs
          cases hf : walkL val l 0 s with
          | error e' => rw [hf] at hs; injection hs with hs; subst hs; exact ihl _ _ _ hf
          | ok s1 => rw [hf] at hs; exact ihr _ _ _ hs
        · rw [if_neg hw2] at hs
          exact ihr _ _ _ hs
theorem iter_cond {σ : Type} {P : σ → Prop} {f g : σ → Except Int σ} (he : ∀ s, P s → f s = g s) (hp : ∀ s s', P s → g s = .ok s' → P s') : ∀ (n : Nat) (s : σ), P s → iterE f n s = iterE g n s ∧ ∀ s', iterE g n s = .ok s' → P s' := by
  intro n
  induction n with
  | zero => intro s hs; exact ⟨rfl, fun s' h => by injection h with h; subst h; exact hs⟩
  | succ n ih =>
    intro s hs
    simp only [iterE]
    rw [he s hs]
    cases hg : g s with
    | error e => exact ⟨rfl, fun s' h => by cases h⟩
    | ok s1 => exact ih s1 (hp _ _ hs hg)
theorem walk_cond {σ : Type} {P : σ → Prop} {val val' : Val σ} (he : ∀ v s, v ≠ 7 → P s → val v s = val' v s) (hp : ∀ v s n s', v ≠ 7 → P s → val' v s = .ok (n, s') → P s') :
    ∀ (T : Parts), no7 T = true → ∀ (last : Int) (s : σ), P s → walkL val T last s = walkL val' T last s ∧ ∀ s', walkL val' T last s = .ok s' → P s' := by
  intro T
  induction T with
  | nil => intro _ last s hs; exact ⟨rfl, fun s' h => by injection h with h; subst h; exact hs⟩
  | cons v wh l r ihl ihr =>
    intro hn last s hs
    simp only [no7, Bool.and_eq_true] at hn
    obtain ⟨h1, h2⟩ := hn
    simp only [walkL]
    by_cases hw : wh = 0
    · rw [if_pos hw] at h1
      have hv : v ≠ 7 := by simpa using h1
      rw [if_pos hw, if_pos hw, he v s hv hs]
      rcases hf : val' v s with e' | ⟨n, s1⟩
      · exact ⟨rfl, fun s' h => by cases h⟩
      · exact ihr h2 n s1 (hp _ _ _ _ hv hs hf)
    · rw [if_neg hw] at h1
      rw [if_neg hw, if_neg hw]
      by_cases hw1 : wh = 1
      · rw [if_pos hw1, if_pos hw1]
        obtain ⟨h3, h4⟩ := iter_cond (P := P) (fun s hs => (ihl h1 0 s hs).1) (fun s s' hs h => (ihl h1 0 s hs).2 s' h) last.toNat s hs
        rw [h3]
        cases hf : iterE (walkL val' l 0) last.toNat s with
        | error e' => exact ⟨rfl, fun s' h => by cases h⟩
        | ok s1 => exact ihr h2 last s1 (h4 s1 hf)
      · rw [if_neg hw1, if_neg hw1]
        by_cases hw2 : last = 1 ∨ wh = 3 ∧ last = 2
        · rw [if_pos hw2, if_pos hw2]
          obtain ⟨h3, h4⟩ := ihl h1 0 s hs
          rw [h3]
          cases hf : walkL val' l 0 s with
          | error e' => exact ⟨rfl, fun s' h => by cases h⟩
          | ok s1 => exact ihr h2 last s1 (h4 s1 hf)
        · rw [if_neg hw2, if_neg hw2]
          exact ihr h2 last s hs
theorem valI_err (v : Int) (s : SI) (e : Int) (h : valI v s = .error e) : e = 20 := by
  unfold valI at h
  by_cases h7 : v = 7
  · rw [if_pos h7] at h; cases h
  · rw [if_neg h7] at h
    split at h
    · injection h with h; exact h.symm
    · split at h
      · cases h
      · injection h with h; exact h.symm
theorem valI_size {v : Int} {s : SI} {n : Int} {s' : SI} (h7 : v ≠ 7) (h : valI v s = .ok (n, s')) : s'.out.length + s'.rest.length = s.out.length + s.rest.length := by
  unfold valI at h
  rw [if_neg h7] at h
  split at h
  · cases h
  · rename_i m t hr
    split at h
    · simp only [Except.ok.injEq, Prod.mk.injEq] at h
      obtain ⟨_, rfl⟩ := h
      simp [hr]; omega
    · cases h
/-- with room for all -/
def valI9 : Val SI := fun v s => if 1000000 ≤ s.out.length then .error 999 else valI v s
theorem walkI9 {id : Int} {T : Parts} (hl : lead id T = true) (last : Int) (s : SI) (hs : s.out.length + s.rest.length ≤ 100000) : walkL valI9 T last s = walkL valI T last s := by
  have step : ∀ v (s : SI), s.out.length + s.rest.length ≤ 999990 → valI9 v s = valI v s := fun v s h => by rw [valI9, if_neg (by omega)]
  have key : ∀ r, no7 r = true → ∀ last (s : SI), s.out.length + s.rest.length ≤ 999990 → walkL valI9 r last s = walkL valI r last s := fun r hr last s hs =>
    (walk_cond (P := fun s : SI => s.out.length + s.rest.length ≤ 999990) (val := valI9) (val' := valI) (fun v s _ h => step v s h) (fun v s n s' h7 hp hv => by rw [valI_size h7 hv]; exact hp) r hr last s hs).1
  have grow : ∀ v (s : SI) n s', valI v s = .ok (n, s') → s'.out.length + s'.rest.length ≤ s.out.length + s.rest.length + 1 := by
    intro v s n s' h
    by_cases h7 : v = 7
    · subst h7
      simp only [valI, if_true, Except.ok.injEq, Prod.mk.injEq] at h
      obtain ⟨_, rfl⟩ := h
      simp; omega
    · have := valI_size h7 h; omega
  cases T with
  | nil => rfl
  | cons v wh l r =>
    cases l with
    | cons _ _ _ _ => simp [lead] at hl
    | nil =>
      simp only [lead] at hl
      by_cases hu : upP id = true
      · rw [if_pos hu] at hl
        simp only [Bool.and_eq_true, decide_eq_true_eq] at hl
        obtain ⟨⟨rfl, rfl⟩, hr⟩ := hl
        simp only [walkL, if_true]
        rw [step 7 s (by omega)]
        rcases hf : valI 7 s with e | ⟨n, s1⟩
        · rfl
        · exact key r hr n s1 (by have := grow _ _ _ _ hf; omega)
      · rw [if_neg hu] at hl
        cases r with
        | nil => simp at hl
        | cons v' wh' l' r' =>
          cases l' with
          | cons _ _ _ _ => simp at hl
          | nil =>
            simp only [Bool.and_eq_true, decide_eq_true_eq] at hl
            obtain ⟨⟨rfl, rfl, rfl, rfl⟩, hr⟩ := hl
            simp only [walkL, if_true]
            rw [step 6 s (by omega)]
            rcases hf : valI 6 s with e | ⟨n, s1⟩
            · rfl
            · have h1 := grow _ _ _ _ hf
              simp only
              rw [step 7 s1 (by omega)]
              rcases hf2 : valI 7 s1 with e | ⟨n2, s2⟩
              · rfl
              · exact key r' hr n2 s2 (by have := grow _ _ _ _ hf2; omega)
theorem walkI9_ok {id : Int} {T : Parts} (hl : lead id T = true) (last : Int) (s : SI) (hs : s.out.length + s.rest.length ≤ 100000) : walkL valI9 T last s ≠ .error 999 := by
  rw [walkI9 hl last s hs]
  intro h
  have := walk_err (E := fun e => e = 20) valI_err T last s 999 h
  omega

end Go.Proofs.YtiebjnibmomcjaaDoor
