/- Chapter 5, plain: the document's walk over words, and that it goes as the parts go. -/
import Derived.Test.YtiebjnibmomcjaaDoorPackE
namespace Go.Proofs.YtiebjnibmomcjaaDoor
open Go.RowKit

abbrev Word := ByteArray
/-- a text -/
def txt (s : String) : Word := s.toUTF8
def wO : Word := ⟨#[123]⟩
def wC : Word := ⟨#[125]⟩
def wL : Word := ⟨#[60]⟩
def wG : Word := ⟨#[62]⟩
def wE : Word := ⟨#[40, 49, 50]⟩
def isOpen (s : Word) : Bool := decide (s = wO ∨ s = wL ∨ s = wE)
def isClose (s : Word) : Bool := decide (s = wC ∨ s = wG)
def opn (wh : Int) : Word := if wh = 1 then wO else if wh = 2 then wL else wE
def cls (wh : Int) : Word := if wh = 1 then wC else wG
/-- the words of parts -/
def toks : Parts → List Word
  | .nil => []
  | .cons v wh l r => if wh = 0 then vName v.toNat :: toks r else opn wh :: (toks l ++ cls wh :: toks r)
/-- the parts are the table's -/
def wfT : Parts → Bool
  | .nil => true
  | .cons v wh l r => (if wh = 0 then decide (0 ≤ v ∧ v < 96) else decide (wh = 1 ∨ wh = 2 ∨ wh = 3) && wfT l) && wfT r

/-- how far on the bracket closes -/
def closeAt : List Word → Int → Nat
  | [], _ => 0
  | s :: l, deep =>
    let d := (if isOpen s then deep + 1 else deep) - (if isClose s then 1 else 0)
    if d = 0 then 0 else closeAt l d + 1
theorem closeAt_le : ∀ (l : List Word) (d : Int), closeAt l d ≤ l.length := by
  intro l
  induction l with
  | nil => intro d; exact Nat.le_refl _
  | cons s l ih =>
    intro d
    simp only [closeAt]
    generalize (if isOpen s = true then d + 1 else d) - (if isClose s = true then 1 else 0) = z
    by_cases h : z = 0
    · rw [if_pos h]; omega
    · rw [if_neg h]; simpa using ih z
theorem isOpen_opn {wh : Int} (h : wh = 1 ∨ wh = 2 ∨ wh = 3) : isOpen (opn wh) = true ∧ isClose (opn wh) = false := by
  rcases h with rfl | rfl | rfl <;> constructor <;> decide
theorem isClose_cls {wh : Int} (h : wh = 1 ∨ wh = 2 ∨ wh = 3) : isOpen (cls wh) = false ∧ isClose (cls wh) = true := by
  rcases h with rfl | rfl | rfl <;> constructor <;> decide
theorem names_plain : ∀ k, k < 96 → isOpen (vName k) = false ∧ isClose (vName k) = false := by decide +kernel

theorem closeAt_toks : ∀ (T : Parts), wfT T = true → ∀ (d : Int) (rest : List Word), 1 ≤ d → closeAt (toks T ++ rest) d = (toks T).length + closeAt rest d := by
  intro T
  induction T with
  | nil => intro _ d rest _; simp [toks]
  | cons v wh l r ihl ihr =>
    intro hw d rest hd
    simp only [wfT, Bool.and_eq_true] at hw
    obtain ⟨h1, h2⟩ := hw
    by_cases h0 : wh = 0
    · rw [if_pos h0, decide_eq_true_iff] at h1
      obtain ⟨ho, hc⟩ := names_plain v.toNat (by omega)
      simp only [toks, if_pos h0, List.cons_append, closeAt, ho, hc, Bool.false_eq_true, if_false, Int.sub_zero]
      rw [if_neg (by omega), ihr h2 d rest hd, List.length_cons]
      omega
    · rw [if_neg h0] at h1
      simp only [Bool.and_eq_true, decide_eq_true_eq] at h1
      obtain ⟨ho, hc⟩ := isOpen_opn h1.1
      obtain ⟨ho2, hc2⟩ := isClose_cls h1.1
      simp only [toks, if_neg h0, List.cons_append, List.append_assoc, closeAt, ho, hc, Bool.false_eq_true, if_false, if_true, Int.sub_zero]
      rw [if_neg (by omega), ihl h1.2 (d + 1) _ (by omega)]
      simp only [closeAt, ho2, hc2, Bool.false_eq_true, if_false, if_true]
      rw [show d + 1 - 1 = d by omega, if_neg (by omega), ihr h2 d rest hd]
      simp only [List.length_cons, List.length_append]
      omega
theorem closeAt_bracket {wh : Int} {l : Parts} (h : wh = 1 ∨ wh = 2 ∨ wh = 3) (hl : wfT l = true) (rest : List Word) : closeAt (opn wh :: (toks l ++ cls wh :: rest)) 0 = (toks l).length + 1 := by
  obtain ⟨ho, hc⟩ := isOpen_opn h
  obtain ⟨ho2, hc2⟩ := isClose_cls h
  simp only [closeAt, ho, hc, Bool.false_eq_true, if_false, if_true, Int.sub_zero]
  rw [if_neg (by omega), closeAt_toks l hl _ _ (by omega)]
  simp only [closeAt, ho2, hc2, Bool.false_eq_true, if_false, if_true]
  rw [if_pos (by omega)]

/-- the document's walk: its numbers that are left, whether it reads, its bits, what it laid, what it got, the error, L_PACKET's place -/
structure RW where
  V : List Int
  Read : Bool
  Bits : List Bool
  Out : List (Int × Int)
  Got : List Int
  E : Int
  Place : Int

/-- the next number, of what is read -/
def oneN (st : RW) (v : Int) : Int := if st.Read then getN st.Bits (vrow v).width else if v = 7 then 0 else st.V.headD 0
/-- what is wrong before the number is looked at -/
def oneE (st : RW) (v : Int) : Int := if st.Read then getE st.Bits.length (vrow v).width else if v = 7 then 0 else if st.V = [] then 20 else 0
/-- the walk behind the number was taken -/
def oneS (st : RW) (v : Int) : RW := if st.Read then { st with Bits := getL st.Bits (vrow v).width } else if v = 7 then st else { st with V := st.V.tail }
/-- the document's 'one' -/
def oneR (st : RW) (v : Int) : Int × RW :=
  if st.E ≠ 0 then (0, st)
  else if oneE st v ≠ 0 then (0, { st with E := oneE st v })
  else if rMay v (oneN st v) = false then (0, { oneS st v with E := 20 })
  else (oneN st v, { oneS st v with Out := st.Out ++ [(oneN st v, (vrow v).width)], Got := if v = 7 ∨ v = 5 then st.Got else st.Got ++ [oneN st v], Place := if v = 7 then st.Out.length else st.Place })

/-- as often, while nothing is wrong -/
def iterR (f : RW → RW) : Nat → RW → RW
  | 0, s => s
  | n + 1, s => if s.E = 0 then iterR f n (f s) else s
/-- the index of a name -/
def findW (s : Word) : Int := match (List.range 96).find? (fun k => decide (vName k = s)) with | some k => k | none => -1
theorem findW_is (s : Word) : FindIs s (findW s) := by
  unfold findW
  cases h : (List.range 96).find? (fun k => decide (vName k = s)) with
  | none =>
    refine .inr ⟨rfl, fun j hj he => ?_⟩
    have := List.find?_eq_none.1 h j (by simpa using hj)
    simp [he] at this
  | some k =>
    obtain ⟨h1, xs, ys, h2, h3⟩ := List.find?_eq_some_iff_append.1 h
    have h4 := List.mem_of_find?_eq_some h
    have hk : k < 96 := by simpa using h4
    refine .inl ⟨k, hk, rfl, by simpa using h1, fun j hj he => ?_⟩
    have h5 : xs.length = k := by
      have h6 := congrArg (fun l => l[xs.length]?) h2
      simp only [List.getElem?_append_right (Nat.le_refl _), Nat.sub_self, List.getElem?_cons_zero] at h6
      obtain ⟨h7, h8⟩ := List.getElem?_eq_some_iff.1 h6
      simpa using h8
    have h9 : j ∈ xs := by
      have h6 := congrArg (fun l => l[j]?) h2
      simp only [List.getElem?_append_left (show j < xs.length by omega)] at h6
      rw [List.getElem?_eq_getElem (by simpa using (show j < 96 by omega))] at h6
      have := List.mem_of_getElem? h6.symm
      simpa using this
    have := h3 j h9
    simp [he] at this
theorem findW_name {k : Nat} (h : k < 96) : findW (vName k) = k := (findW_is _).one (find_name h)
/-- the document's 'run' -/
def runR : Nat → List Word → Int → RW → RW
  | 0, _, _, st => st
  | _ + 1, [], _, st => st
  | f + 1, s :: l, last, st =>
    if st.E ≠ 0 then st
    else if isOpen s = false then runR f l (oneR st (findW s)).1 (oneR st (findW s)).2
    else
      runR f ((s :: l).drop (closeAt (s :: l) 0 + 1)) last
        (iterR (runR f (l.take (closeAt (s :: l) 0 - 1)) 0) (if s = wO then last.toNat else if last = 1 ∨ s = wE ∧ last = 2 then 1 else 0) st)


/-- 'one', by what is wrong -/
def valR : Val RW := fun v st =>
  if oneE st v ≠ 0 then .error (oneE st v)
  else if rMay v (oneN st v) = false then .error 20
  else .ok (oneN st v, { oneS st v with Out := st.Out ++ [(oneN st v, (vrow v).width)], Got := if v = 7 ∨ v = 5 then st.Got else st.Got ++ [oneN st v], Place := if v = 7 then st.Out.length else st.Place })
theorem oneS_E (st : RW) (v : Int) : (oneS st v).E = st.E := by
  unfold oneS
  split
  · rfl
  · split <;> rfl
/-- the walk goes on, or its error is this one -/
def EndR : Except Int RW → RW → Prop
  | .ok st', x => x = st' ∧ st'.E = 0
  | .error e, x => x.E = e ∧ e ≠ 0
theorem oneR_val {st : RW} (h : st.E = 0) (v : Int) : (∃ n st', valR v st = .ok (n, st') ∧ oneR st v = (n, st') ∧ st'.E = 0) ∨ (∃ e, valR v st = .error e ∧ (oneR st v).2.E = e ∧ e ≠ 0) := by
  have e : oneR st v = if oneE st v ≠ 0 then (0, { st with E := oneE st v })
      else if rMay v (oneN st v) = false then (0, { oneS st v with E := 20 })
      else (oneN st v, { oneS st v with Out := st.Out ++ [(oneN st v, (vrow v).width)], Got := if v = 7 ∨ v = 5 then st.Got else st.Got ++ [oneN st v], Place := if v = 7 then st.Out.length else st.Place }) := by
    unfold oneR; exact if_neg (by simpa using h)
  rw [e]
  unfold valR
  by_cases h1 : oneE st v ≠ 0
  · rw [if_pos h1, if_pos h1]; exact .inr ⟨_, rfl, rfl, h1⟩
  · rw [if_neg h1, if_neg h1]
    by_cases h2 : rMay v (oneN st v) = false
    · rw [if_pos h2, if_pos h2]; exact .inr ⟨_, rfl, rfl, by decide⟩
    · rw [if_neg h2, if_neg h2]; exact .inl ⟨_, _, rfl, rfl, by show (oneS st v).E = 0; rw [oneS_E]; exact h⟩
theorem runR_err {f : Nat} {l : List Word} {last : Int} {st : RW} (h : st.E ≠ 0) : runR f l last st = st := by
  cases f with
  | zero => rfl
  | succ f =>
    cases l with
    | nil => rfl
    | cons s l => simp only [runR]; rw [if_pos h]
theorem iterR_err {f : RW → RW} {n : Nat} {st : RW} (h : st.E ≠ 0) : iterR f n st = st := by
  cases n with
  | zero => rfl
  | succ n => simp only [iterR]; rw [if_neg h]
theorem iterR_walk {f : RW → RW} {g : RW → Except Int RW} (h : ∀ st, st.E = 0 → EndR (g st) (f st)) : ∀ (n : Nat) (st : RW), st.E = 0 → EndR (iterE g n st) (iterR f n st) := by
  intro n
  induction n with
  | zero => intro st hst; exact ⟨rfl, hst⟩
  | succ n ih =>
    intro st hst
    simp only [iterE, iterR, if_pos hst]
    have h1 := h st hst
    cases hg : g st with
    | error e =>
      rw [hg] at h1
      simp only
      rw [iterR_err (by rw [h1.1]; exact h1.2)]
      exact h1
    | ok s1 =>
      rw [hg] at h1
      obtain ⟨h2, h3⟩ := h1
      rw [h2]
      exact ih s1 h3
theorem opn_ne {wh : Int} (h : wh = 1 ∨ wh = 2 ∨ wh = 3) : (opn wh = wO ↔ wh = 1) ∧ (opn wh = wE ↔ wh = 3) := by
  rcases h with rfl | rfl | rfl <;> constructor <;> decide
theorem runR_walk : ∀ (T : Parts), wfT T = true → ∀ (f : Nat) (last : Int) (st : RW), (toks T).length ≤ f → st.E = 0 → EndR (walkL valR T last st) (runR f (toks T) last st) := by
  intro T
  induction T with
  | nil =>
    intro _ f last st _ hst
    have : runR f (toks .nil) last st = st := by cases f <;> rfl
    rw [this]
    exact ⟨rfl, hst⟩
  | cons v wh l r ihl ihr =>
    intro hw f last st hf hst
    simp only [wfT, Bool.and_eq_true] at hw
    obtain ⟨h1, h2⟩ := hw
    by_cases h0 : wh = 0
    · rw [if_pos h0, decide_eq_true_iff] at h1
      obtain ⟨ho, hc⟩ := names_plain v.toNat (by omega)
      simp only [toks, if_pos h0, List.length_cons] at hf ⊢
      obtain ⟨f, rfl⟩ : ∃ g, f = g + 1 := ⟨f - 1, by omega⟩
      have hr : runR (f + 1) (vName v.toNat :: toks r) last st = runR f (toks r) (oneR st (findW (vName v.toNat))).1 (oneR st (findW (vName v.toNat))).2 := by
        simp only [runR]; rw [if_neg (by simpa using hst), if_pos ho]
      rw [hr]
      simp only [walkL, if_pos h0]
      have hfn : findW (vName v.toNat) = v := by rw [findW_name (by omega)]; omega
      rw [hfn]
      rcases oneR_val hst v with ⟨n, st', h3, h4, h5⟩ | ⟨e, h3, h4, h5⟩
      · rw [h3, h4]; exact ihr h2 f n st' (by omega) h5
      · rw [h3, runR_err (by rw [h4]; exact h5)]; exact ⟨h4, h5⟩
    · rw [if_neg h0] at h1
      simp only [Bool.and_eq_true, decide_eq_true_eq] at h1
      obtain ⟨ho, hc⟩ := isOpen_opn h1.1
      have hcl := closeAt_bracket h1.1 h1.2 (toks r)
      simp only [toks, if_neg h0, List.length_cons, List.length_append] at hf ⊢
      obtain ⟨f, rfl⟩ : ∃ g, f = g + 1 := ⟨f - 1, by omega⟩
      have hr : runR (f + 1) (opn wh :: (toks l ++ cls wh :: toks r)) last st = runR f ((opn wh :: (toks l ++ cls wh :: toks r)).drop ((toks l).length + 1 + 1)) last
          (iterR (runR f ((toks l ++ cls wh :: toks r).take ((toks l).length + 1 - 1)) 0) (if opn wh = wO then last.toNat else if last = 1 ∨ opn wh = wE ∧ last = 2 then 1 else 0) st) := by
        simp only [runR]; rw [if_neg (by simpa using hst), if_neg (by rw [ho]; decide), hcl]
      rw [hr]
      simp only [walkL, if_neg h0]
      have e1 : (opn wh :: (toks l ++ cls wh :: toks r)).drop ((toks l).length + 1 + 1) = toks r := by
        rw [List.drop_succ_cons, show (toks l).length + 1 = (toks l).length + 1 from rfl, ← List.drop_drop, List.drop_left, List.drop_succ_cons, List.drop_zero]
      have e2 : (toks l ++ cls wh :: toks r).take ((toks l).length + 1 - 1) = toks l := by rw [Nat.add_sub_cancel, List.take_left]
      rw [e1, e2]
      obtain ⟨o1, o2⟩ := opn_ne h1.1
      have hit := iterR_walk (f := runR f (toks l) 0) (g := walkL valR l 0) (fun st hst => ihl h1.2 f 0 st (by omega) hst)
      by_cases hw1 : wh = 1
      · rw [if_pos hw1, if_pos (o1.2 hw1)]
        have h3 := hit last.toNat st hst
        cases hg : iterE (walkL valR l 0) last.toNat st with
        | error e => rw [hg] at h3; rw [runR_err (by rw [h3.1]; exact h3.2)]; exact h3
        | ok s1 => rw [hg] at h3; rw [h3.1]; exact ihr h2 f last s1 (by omega) h3.2
      · rw [if_neg hw1, if_neg (fun h => hw1 (o1.1 h))]
        by_cases hw2 : last = 1 ∨ wh = 3 ∧ last = 2
        · rw [if_pos hw2, if_pos (by rcases hw2 with h | ⟨h, h'⟩; exact .inl h; exact .inr ⟨o2.2 h, h'⟩)]
          have h3 := ihl h1.2 f 0 st (by omega) hst
          have e3 : iterR (runR f (toks l) 0) 1 st = runR f (toks l) 0 st := by simp only [iterR, if_pos hst]
          rw [e3]
          cases hg : walkL valR l 0 st with
          | error e => rw [hg] at h3; rw [runR_err (by rw [h3.1]; exact h3.2)]; exact h3
          | ok s1 => rw [hg] at h3; rw [h3.1]; exact ihr h2 f last s1 (by omega) h3.2
        · rw [if_neg hw2, if_neg (by rintro (h | ⟨h, h'⟩); exact hw2 (.inl h); exact hw2 (.inr ⟨o2.1 h, h'⟩))]
          exact ihr h2 f last st (by omega) hst

end Go.Proofs.YtiebjnibmomcjaaDoor
