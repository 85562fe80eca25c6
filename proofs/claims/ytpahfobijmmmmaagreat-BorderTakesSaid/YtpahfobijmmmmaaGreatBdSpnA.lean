/- Chapter 15, plainly: spans, what they have, the normal form and that it is one alone. No program. -/
import Derived.Test.YtpahfobijmmmmaaGreatMem
import Derived.Test.YtpahfobijmmmmaaGreatRep
namespace Go.Proofs.YtpahfobijmmmmaaGreat

abbrev Sp := Int × Int × Int
def someS (s : Sp) : Bool := decide (0 ≤ s.1) && decide (0 ≤ s.2.1) && decide (s.2.1 < s.2.2) && decide (s.2.2 ≤ 1000000)
/-- has a span a decimetre? -/
def hasS (s : Sp) (e a : Int) : Bool := decide (s.1 = e) && decide (s.2.1 ≤ a) && decide (a < s.2.2)
def hasL (l : List Sp) (e a : Int) : Bool := l.any fun s => someS s && hasS s e a
def sepS (s t : Sp) : Prop := s.1 < t.1 ∨ (s.1 = t.1 ∧ s.2.2 < t.2.1)
def NormalS (l : List Sp) : Prop := (∀ s ∈ l, someS s = true) ∧ l.Pairwise sepS
/-- m is the normal form of l -/
def NormOf (l m : List Sp) : Prop := NormalS m ∧ ∀ e a, hasL m e a = hasL l e a

theorem someS_iff {s : Sp} : someS s = true ↔ 0 ≤ s.1 ∧ 0 ≤ s.2.1 ∧ s.2.1 < s.2.2 ∧ s.2.2 ≤ 1000000 := by
  unfold someS; simp [and_assoc]
theorem hasS_iff {s : Sp} {e a : Int} : hasS s e a = true ↔ s.1 = e ∧ s.2.1 ≤ a ∧ a < s.2.2 := by
  unfold hasS; simp [and_assoc]
theorem hasL_iff {l : List Sp} {e a : Int} : hasL l e a = true ↔ ∃ s ∈ l, someS s = true ∧ s.1 = e ∧ s.2.1 ≤ a ∧ a < s.2.2 := by
  unfold hasL
  simp only [List.any_eq_true, Bool.and_eq_true, hasS_iff]
theorem hasL_nil (e a : Int) : hasL [] e a = false := rfl
theorem hasL_app (l m : List Sp) (e a : Int) : hasL (l ++ m) e a = (hasL l e a || hasL m e a) := by simp [hasL]
theorem hasL_cons (s : Sp) (l : List Sp) (e a : Int) : hasL (s :: l) e a = ((someS s && hasS s e a) || hasL l e a) := by simp [hasL]
theorem hasL_perm {l m : List Sp} (h : l.Perm m) (e a : Int) : hasL l e a = hasL m e a := by
  rw [Bool.eq_iff_iff, hasL_iff, hasL_iff]
  constructor
  · rintro ⟨s, hs, r⟩; exact ⟨s, h.mem_iff.1 hs, r⟩
  · rintro ⟨s, hs, r⟩; exact ⟨s, h.mem_iff.2 hs, r⟩
theorem hasL_filter (l : List Sp) (e a : Int) : hasL (l.filter someS) e a = hasL l e a := by
  rw [Bool.eq_iff_iff, hasL_iff, hasL_iff]
  constructor
  · rintro ⟨s, hs, r⟩; exact ⟨s, (List.mem_filter.1 hs).1, r⟩
  · rintro ⟨s, hs, h1, r⟩; exact ⟨s, List.mem_filter.2 ⟨hs, h1⟩, h1, r⟩
theorem bool_ext {a b : Bool} (h : a = true ↔ b = true) : a = b := Bool.eq_iff_iff.2 h
theorem not_true_iff {b : Bool} : ¬ b = true ↔ b = false := by cases b <;> simp

theorem NormalS.nil : NormalS [] := ⟨by simp, List.Pairwise.nil⟩
theorem NormalS.tail {s : Sp} {l : List Sp} (h : NormalS (s :: l)) : NormalS l := ⟨fun x hx => h.1 x (by simp [hx]), (List.pairwise_cons.1 h.2).2⟩
/-- behind the first span of a normal list nothing begins where it is, or one behind it -/
theorem NormalS.behind {s : Sp} {l : List Sp} (h : NormalS (s :: l)) {e a : Int} (hx : hasL l e a = true) : s.1 < e ∨ (s.1 = e ∧ s.2.2 < a) := by
  obtain ⟨t, ht, h1, h2, h3, h4⟩ := hasL_iff.1 hx
  rcases (List.pairwise_cons.1 h.2).1 t ht with h5 | ⟨h5, h6⟩
  · left; omega
  · right; omega
theorem NormalS.head {s : Sp} {l : List Sp} (h : NormalS (s :: l)) : hasL (s :: l) s.1 s.2.1 = true := by
  have := someS_iff.1 (h.1 s (by simp))
  exact hasL_iff.2 ⟨s, by simp, h.1 s (by simp), rfl, by omega, by omega⟩
theorem NormalS.not_hi {s : Sp} {l : List Sp} (h : NormalS (s :: l)) : hasL (s :: l) s.1 s.2.2 = false := by
  rw [← not_true_iff]
  intro hx
  rw [hasL_cons, Bool.or_eq_true, Bool.and_eq_true, hasS_iff] at hx
  rcases hx with ⟨_, _, _, h2⟩ | hx
  · omega
  · have := h.behind hx; omega
theorem normal_one : ∀ {l m : List Sp}, NormalS l → NormalS m → (∀ e a, hasL l e a = hasL m e a) → l = m
  | [], [], _, _, _ => rfl
  | [], t :: m, _, h2, h => by have := h t.1 t.2.1; rw [h2.head] at this; cases this
  | s :: l, [], h1, _, h => by have := h s.1 s.2.1; rw [h1.head] at this; cases this
  | s :: l, t :: m, h1, h2, h => by
    have hs := someS_iff.1 (h1.1 s (by simp))
    have ht := someS_iff.1 (h2.1 t (by simp))
    -- the first decimetres
    have a1 : hasL (t :: m) s.1 s.2.1 = true := by rw [← h]; exact h1.head
    have a2 : hasL (s :: l) t.1 t.2.1 = true := by rw [h]; exact h2.head
    rw [hasL_cons, Bool.or_eq_true, Bool.and_eq_true, hasS_iff] at a1 a2
    have e1 : s.1 = t.1 ∧ s.2.1 = t.2.1 := by
      rcases a1 with ⟨_, b1, b2, b3⟩ | b
      · rcases a2 with ⟨_, c1, c2, c3⟩ | c
        · omega
        · have := h1.behind c; omega
      · have hb := h2.behind b
        rcases a2 with ⟨_, c1, c2, c3⟩ | c
        · omega
        · have := h1.behind c; omega
    have e2 : s.2.2 = t.2.2 := by
      have n1 : hasL (t :: m) s.1 s.2.2 = false := by rw [← h]; exact h1.not_hi
      have n2 : hasL (s :: l) t.1 t.2.2 = false := by rw [h]; exact h2.not_hi
      rw [hasL_cons, Bool.or_eq_false_iff, h2.1 t (by simp), Bool.true_and] at n1
      rw [hasL_cons, Bool.or_eq_false_iff, h1.1 s (by simp), Bool.true_and] at n2
      have m1 := n1.1
      have m2 := n2.1
      rw [← not_true_iff, hasS_iff] at m1 m2
      omega
    have e3 : s = t := by obtain ⟨a, b, c⟩ := s; obtain ⟨a', b', c'⟩ := t; simp only at e1 e2; rw [e1.1, e1.2, e2]
    subst e3
    have : l = m := normal_one h1.tail h2.tail (fun e a => by
      have h3 := h e a
      rw [hasL_cons, hasL_cons, h1.1 s (by simp), Bool.true_and] at h3
      apply bool_ext
      constructor
      · intro hx
        rw [hx, Bool.or_true] at h3
        have := h1.behind hx
        rw [eq_comm, Bool.or_eq_true, hasS_iff] at h3
        rcases h3 with h3 | h3
        · omega
        · exact h3
      · intro hx
        rw [hx, Bool.or_true] at h3
        have := h2.behind hx
        rw [Bool.or_eq_true, hasS_iff] at h3
        rcases h3 with h3 | h3
        · omega
        · exact h3)
    rw [this]
theorem NormOf.one {l m n : List Sp} (h1 : NormOf l m) (h2 : NormOf l n) : m = n := normal_one h1.1 h2.1 (fun e a => (h1.2 e a).trans (h2.2 e a).symm)
theorem NormOf.self {l : List Sp} (h : NormalS l) : NormOf l l := ⟨h, fun _ _ => rfl⟩

/-- one step of Norm's loop -/
def normStep (out : List Sp) (s : Sp) : List Sp :=
  match out.getLast? with
  | none => [s]
  | some t => if t.1 = s.1 ∧ s.2.1 ≤ t.2.2 then out.dropLast ++ [(t.1, t.2.1, max t.2.2 s.2.2)] else out ++ [s]
def leS (s t : Sp) : Prop := s.1 < t.1 ∨ (s.1 = t.1 ∧ s.2.1 ≤ t.2.1)
theorem normStep_app (l : List Sp) (t s : Sp) : normStep (l ++ [t]) s = if t.1 = s.1 ∧ s.2.1 ≤ t.2.2 then l ++ [(t.1, t.2.1, max t.2.2 s.2.2)] else l ++ [t] ++ [s] := by
  unfold normStep; simp
theorem normStep_nil (s : Sp) : normStep [] s = [s] := rfl
theorem normStep_ok {out : List Sp} {s : Sp} (h : NormalS out) (hs : someS s = true) (hle : ∀ t ∈ out, leS t s) :
    NormalS (normStep out s) ∧ (∀ e a, hasL (normStep out s) e a = (hasL out e a || hasL [s] e a)) ∧ (∀ u, leS s u → ∀ t ∈ normStep out s, leS t u) := by
  have hs' := someS_iff.1 hs
  rcases List.eq_nil_or_concat out with rfl | ⟨l, t, rfl⟩
  · refine ⟨⟨by simpa [normStep] using hs, by simp [normStep]⟩, fun e a => by simp [normStep, hasL_nil], fun u hu t ht => ?_⟩
    simp [normStep] at ht; subst ht; exact hu
  · simp only [List.concat_eq_append] at *
    have ht := someS_iff.1 (h.1 t (by simp))
    have hts := hle t (by simp)
    have hpw := List.pairwise_append.1 h.2
    rw [normStep_app]
    by_cases hc : t.1 = s.1 ∧ s.2.1 ≤ t.2.2
    · rw [if_pos hc]
      have hm : max t.2.2 s.2.2 = t.2.2 ∨ max t.2.2 s.2.2 = s.2.2 := by omega
      have hm2 : t.2.2 ≤ max t.2.2 s.2.2 ∧ s.2.2 ≤ max t.2.2 s.2.2 := by omega
      have hsm : someS (t.1, t.2.1, max t.2.2 s.2.2) = true := by rw [someS_iff]; simp only; omega
      refine ⟨⟨?_, ?_⟩, fun e a => ?_, fun u hu x hx => ?_⟩
      · intro x hx
        rcases List.mem_append.1 hx with hx | hx
        · exact h.1 x (by simp [hx])
        · simp at hx; subst hx; exact hsm
      · rw [List.pairwise_append]
        refine ⟨hpw.1, by simp, fun x hx y hy => ?_⟩
        simp at hy
        subst hy
        have := hpw.2.2 x hx t (by simp)
        exact this
      · rw [hasL_app, hasL_app, Bool.or_assoc]
        congr 1
        simp only [hasL_cons, hasL_nil, Bool.or_false, hsm, hs, h.1 t (by simp), Bool.true_and]
        apply bool_ext
        rw [Bool.or_eq_true, hasS_iff, hasS_iff, hasS_iff]
        simp only
        rcases hts with hts | hts
        · omega
        · constructor
          · intro hh
            by_cases ha : a < t.2.2
            · left; omega
            · right; omega
          · intro hh
            rcases hh with hh | hh
            · omega
            · omega
      · rcases List.mem_append.1 hx with hx | hx
        · have h1 := hle x (by simp [hx])
          unfold leS at *; omega
        · simp at hx; subst hx
          unfold leS at *; simp only; omega
    · rw [if_neg hc]
      refine ⟨⟨?_, ?_⟩, fun e a => by rw [hasL_app], fun u hu x hx => ?_⟩
      · intro x hx
        rcases List.mem_append.1 hx with hx | hx
        · exact h.1 x hx
        · simp at hx; subst hx; exact hs
      · rw [List.pairwise_append]
        refine ⟨h.2, by simp, fun x hx y hy => ?_⟩
        simp at hy
        subst hy
        have hts2 : sepS t y := by
          unfold sepS
          rcases hts with hts | hts
          · left; exact hts
          · right; exact ⟨hts.1, by omega⟩
        rcases List.mem_append.1 hx with hx | hx
        · have h1 := hpw.2.2 x hx t (by simp)
          unfold sepS at *; omega
        · simp at hx; subst hx; exact hts2
      · rcases List.mem_append.1 hx with hx | hx
        · have h1 := hle x hx
          unfold leS at *; omega
        · simp at hx; subst hx; exact hu
/-- Norm's loop over spans that rise makes the normal form -/
theorem normFold_ok : ∀ {l out : List Sp}, NormalS out → (∀ s ∈ l, someS s = true) → l.Pairwise leS → (∀ t ∈ out, ∀ s ∈ l, leS t s) →
    NormalS (l.foldl normStep out) ∧ ∀ e a, hasL (l.foldl normStep out) e a = (hasL out e a || hasL l e a)
  | [], out, h, _, _, _ => ⟨h, fun e a => by simp [hasL_nil]⟩
  | s :: l, out, h, hs, hp, hle => by
    obtain ⟨h1, h2, h3⟩ := normStep_ok h (hs s (by simp)) (fun t ht => hle t ht s (by simp))
    have hpc := List.pairwise_cons.1 hp
    obtain ⟨h4, h5⟩ := normFold_ok h1 (fun x hx => hs x (by simp [hx])) hpc.2 (fun t ht x hx => h3 x (hpc.1 x hx) t ht)
    refine ⟨h4, fun e a => ?_⟩
    rw [List.foldl_cons, h5, h2, Bool.or_assoc, ← hasL_app]
    rfl
theorem norm_of {l all : List Sp} (hp : all.Perm (l.filter someS)) (hs : all.Pairwise leS) : NormOf l (all.foldl normStep []) := by
  obtain ⟨h1, h2⟩ := normFold_ok (l := all) NormalS.nil (fun s hs => (List.mem_filter.1 (hp.mem_iff.1 hs)).2) hs (by simp)
  refine ⟨h1, fun e a => ?_⟩
  rw [h2, hasL_nil, Bool.false_or, hasL_perm hp, hasL_filter]
theorem normFold_len : ∀ (l out : List Sp), (l.foldl normStep out).length ≤ out.length + l.length
  | [], out => by simp
  | s :: l, out => by
    have h1 := normFold_len l (normStep out s)
    have h2 : (normStep out s).length ≤ out.length + 1 := by
      rcases List.eq_nil_or_concat out with rfl | ⟨m, t, rfl⟩
      · simp [normStep]
      · rw [List.concat_eq_append, normStep_app]; split <;> simp
    simp only [List.foldl_cons, List.length_cons]; omega

/-- the pieces into which others cut a span, and whether the others have them -/
def pieceM : Sp → List Sp → List (Sp × Bool)
  | s, [] => if s.2.1 < s.2.2 then [(s, false)] else []
  | s, x :: b => if x.1 ≠ s.1 ∨ x.2.2 ≤ s.2.1 ∨ s.2.2 ≤ x.2.1 then pieceM s b
      else (if s.2.1 < x.2.1 then [((s.1, s.2.1, x.2.1), false)] else []) ++ ((s.1, max s.2.1 x.2.1, min s.2.2 x.2.2), true) :: pieceM (s.1, min s.2.2 x.2.2, s.2.2) b
def piecesM (a b : List Sp) : List (Sp × Bool) := a.flatMap fun s => pieceM s b
def keptM (which : Bool) (l : List (Sp × Bool)) : List Sp := (l.filter fun x => x.2 == which).map (·.1)
theorem keptM_app (which : Bool) (l m : List (Sp × Bool)) : keptM which (l ++ m) = keptM which l ++ keptM which m := by simp [keptM]
theorem keptM_cons (which : Bool) (p : Sp × Bool) (l : List (Sp × Bool)) : keptM which (p :: l) = keptM which [p] ++ keptM which l := keptM_app which [p] l
/-- a span within the bounds (it may be empty) -/
def inS (s : Sp) : Prop := 0 ≤ s.1 ∧ 0 ≤ s.2.1 ∧ s.2.2 ≤ 1000000
theorem has_one {s : Sp} (h : inS s) (e a : Int) : (someS s && hasS s e a) = hasS s e a := by
  apply bool_ext
  rw [Bool.and_eq_true, someS_iff, hasS_iff]
  obtain ⟨h1, h2, h3⟩ := h
  constructor
  · exact fun h => h.2
  · intro h; refine ⟨⟨h1, h2, ?_, h3⟩, h⟩; omega
theorem pieceM_has (which : Bool) : ∀ {b : List Sp} {s : Sp}, NormalS b → inS s → ∀ e a, hasL (keptM which (pieceM s b)) e a = (hasS s e a && (hasL b e a == which))
  | [], s, _, hs, e, a => by
    unfold pieceM
    split
    · rename_i hlt
      have : someS s = true := by rw [someS_iff]; exact ⟨hs.1, hs.2.1, hlt, hs.2.2⟩
      cases which <;> simp [keptM, hasL_cons, hasL_nil, this]
    · rename_i hlt
      have : hasS s e a = false := by rw [← not_true_iff, hasS_iff]; omega
      simp [keptM, hasL_nil, this]
  | x :: b, s, hb, hs, e, a => by
    have hx := someS_iff.1 (hb.1 x (by simp))
    unfold pieceM
    by_cases hc : x.1 ≠ s.1 ∨ x.2.2 ≤ s.2.1 ∨ s.2.2 ≤ x.2.1
    · rw [if_pos hc, pieceM_has which hb.tail hs e a, hasL_cons, hb.1 x (by simp), Bool.true_and]
      cases h1 : hasS s e a
      · simp
      · have : hasS x e a = false := by rw [hasS_iff] at h1; rw [← not_true_iff, hasS_iff]; omega
        simp [this]
    · rw [if_neg hc]
      have ih := pieceM_has which hb.tail (s := (s.1, min s.2.2 x.2.2, s.2.2)) ⟨hs.1, by simp only; have := hs.2.1; omega, hs.2.2⟩ e a
      rw [keptM_app, keptM_cons, hasL_app, hasL_app, ih, hasL_cons, hb.1 x (by simp), Bool.true_and]
      have hmid := has_one (s := (s.1, max s.2.1 x.2.1, min s.2.2 x.2.2)) (by obtain ⟨p1, p2, p3⟩ := hs; refine ⟨p1, ?_, ?_⟩ <;> simp only <;> omega) e a
      have hA : hasL (keptM which (if s.2.1 < x.2.1 then [((s.1, s.2.1, x.2.1), false)] else [])) e a = (!which && (decide (s.1 = e) && decide (s.2.1 ≤ a) && decide (a < x.2.1))) := by
        split
        · rename_i hlt
          have hsm : someS (s.1, s.2.1, x.2.1) = true := by rw [someS_iff]; obtain ⟨p1, p2, p3⟩ := hs; simp only; omega
          cases which <;> simp [keptM, hasL_cons, hasL_nil, hsm, hasS]
        · rename_i hlt
          apply bool_ext
          simp [keptM, hasL_nil]
          intros; omega
      have hB : hasL (keptM which [((s.1, max s.2.1 x.2.1, min s.2.2 x.2.2), true)]) e a = (which && hasS (s.1, max s.2.1 x.2.1, min s.2.2 x.2.2) e a) := by
        cases which
        · simp [keptM, hasL_nil]
        · simp only [keptM, List.filter_cons, List.filter_nil, beq_self_eq_true, if_true, List.map_cons, List.map_nil, hasL_cons, hasL_nil, Bool.or_false, Bool.true_and]; exact hmid
      rw [hA, hB]
      have hbh : hasL b e a = true → x.1 < e ∨ (x.1 = e ∧ x.2.2 < a) := fun h => hb.behind h
      cases hbb : hasL b e a with
      | true =>
        have h3 := hbh hbb
        cases which
        · apply bool_ext
          simp [hasS]
          intros; omega
        · apply bool_ext
          simp [hasS]
          omega
      | false =>
        cases which
        · apply bool_ext
          simp [hasS]
          omega
        · apply bool_ext
          simp [hasS]
          omega
theorem piecesM_has (which : Bool) {a b : List Sp} (ha : NormalS a) (hb : NormalS b) (e x : Int) : hasL (keptM which (piecesM a b)) e x = (hasL a e x && (hasL b e x == which)) := by
  have : ∀ l : List Sp, (∀ s ∈ l, someS s = true) → hasL (keptM which (piecesM l b)) e x = (hasL l e x && (hasL b e x == which)) := by
    intro l
    induction l with
    | nil => intro _; simp [piecesM, keptM, hasL_nil]
    | cons s l ih =>
      intro hl
      have hs := someS_iff.1 (hl s (by simp))
      have : piecesM (s :: l) b = pieceM s b ++ piecesM l b := by simp [piecesM]
      rw [this, keptM_app, hasL_app, ih (fun y hy => hl y (by simp [hy])), pieceM_has which hb ⟨hs.1, hs.2.1, hs.2.2.2⟩, hasL_cons, hl s (by simp), Bool.true_and, Bool.and_or_distrib_right]
  exact this a ha.1
theorem pieceM_len : ∀ (b : List Sp) (s : Sp), (pieceM s b).length ≤ 2 * b.length + 1
  | [], s => by unfold pieceM; split <;> simp
  | x :: b, s => by
    unfold pieceM
    split
    · have := pieceM_len b s; simp only [List.length_cons]; omega
    · have := pieceM_len b (s.1, min s.2.2 x.2.2, s.2.2)
      simp only [List.length_append, List.length_cons]
      split <;> simp <;> omega
theorem piecesM_len (a b : List Sp) : (piecesM a b).length ≤ a.length * (2 * b.length + 1) := by
  induction a with
  | nil => simp [piecesM]
  | cons s a ih =>
    have : piecesM (s :: a) b = pieceM s b ++ piecesM a b := by simp [piecesM]
    rw [this, List.length_append, List.length_cons, Nat.succ_mul]
    have := pieceM_len b s
    omega

end Go.Proofs.YtpahfobijmmmmaaGreat

namespace Go.Proofs.YtpahfobijmmmmaaGreat
open Go.RowKit

/-- an int of 64 bits -/
def i64_ (n : Int) : Prop := -9223372036854775808 ≤ n ∧ n ≤ 9223372036854775807
def spIn (s : Sp) : Prop := i64_ s.1 ∧ i64_ s.2.1 ∧ i64_ s.2.2
def spCell (s : Sp) : List Value := [.int .i64 s.1, .int .i64 s.2.1, .int .i64 s.2.2]
/-- the cells of spans -/
def spCells (l : List Sp) : List Value := l.flatMap spCell
theorem spCells_cons (s : Sp) (l : List Sp) : spCells (s :: l) = .int .i64 s.1 :: .int .i64 s.2.1 :: .int .i64 s.2.2 :: spCells l := rfl
theorem spCells_nil : spCells [] = [] := rfl
theorem spCells_app (l m : List Sp) : spCells (l ++ m) = spCells l ++ spCells m := by simp [spCells]
theorem len_spCells (l : List Sp) : (spCells l).length = l.length * 3 := by
  induction l with
  | nil => rfl
  | cons s l ih => rw [spCells_cons]; simp only [List.length_cons, ih]; omega
theorem spCells_one (l : List Sp) : ∀ u ∈ spCells l, u.oneCell' = true := by
  induction l with
  | nil => intro u hu; cases hu
  | cons s l ih =>
    intro u hu
    rw [spCells_cons] at hu
    rcases List.mem_cons.1 hu with rfl | hu
    · rfl
    rcases List.mem_cons.1 hu with rfl | hu
    · rfl
    rcases List.mem_cons.1 hu with rfl | hu
    · rfl
    exact ih u hu
theorem spCells_at : ∀ (l : List Sp) {i : Nat} {s : Sp}, l[i]? = some s → (spCells l)[i * 3]? = some (.int .i64 s.1) ∧ (spCells l)[i * 3 + 1]? = some (.int .i64 s.2.1) ∧ (spCells l)[i * 3 + 2]? = some (.int .i64 s.2.2) := by
  intro l
  induction l with
  | nil => intro i s h; simp at h
  | cons y l ih =>
    intro i s h
    cases i with
    | zero => simp only [List.getElem?_cons_zero, Option.some.injEq] at h; subst h; exact ⟨rfl, rfl, rfl⟩
    | succ i =>
      simp only [List.getElem?_cons_succ] at h
      obtain ⟨h1, h2, h3⟩ := ih h
      rw [spCells_cons, show (i + 1) * 3 = i * 3 + 1 + 1 + 1 by omega, show i * 3 + 1 + 1 + 1 + 1 = (i * 3 + 1) + 1 + 1 + 1 by omega, show i * 3 + 1 + 1 + 1 + 2 = (i * 3 + 2) + 1 + 1 + 1 by omega]
      simp only [List.getElem?_cons_succ]
      exact ⟨h1, h2, h3⟩
theorem spCells_set2 : ∀ (l : List Sp) {i : Nat} {s : Sp}, l[i]? = some s → ∀ m, spCells (l.set i (s.1, s.2.1, m)) = (spCells l).set (i * 3 + 2) (.int .i64 m) := by
  intro l
  induction l with
  | nil => intro i s h; simp at h
  | cons y l ih =>
    intro i s h m
    cases i with
    | zero =>
      simp only [List.getElem?_cons_zero, Option.some.injEq] at h
      subst h
      rfl
    | succ i =>
      simp only [List.getElem?_cons_succ] at h
      rw [List.set_cons_succ, spCells_cons, spCells_cons, ih h m, show (i + 1) * 3 + 2 = (i * 3 + 2) + 1 + 1 + 1 by omega, List.set_cons_succ, List.set_cons_succ, List.set_cons_succ]
theorem spCells_take : ∀ (l : List Sp) (k : Nat), (spCells l).take (k * 3) = spCells (l.take k)
  | [], k => by simp [spCells_nil]
  | s :: l, 0 => by simp [spCells_nil]
  | s :: l, k + 1 => by
    rw [List.take_succ_cons, spCells_cons, spCells_cons, show (k + 1) * 3 = k * 3 + 1 + 1 + 1 by omega, List.take_succ_cons, List.take_succ_cons, List.take_succ_cons, spCells_take l k]
theorem spCells_drop : ∀ (l : List Sp) (k : Nat), (spCells l).drop (k * 3) = spCells (l.drop k)
  | [], k => by simp [spCells_nil]
  | s :: l, 0 => by simp
  | s :: l, k + 1 => by
    rw [List.drop_succ_cons, spCells_cons, show (k + 1) * 3 = k * 3 + 1 + 1 + 1 by omega, List.drop_succ_cons, List.drop_succ_cons, List.drop_succ_cons, spCells_drop l k]
/-- element k of spans that a slice reads as -/
theorem Rd.sp {w : World} {B n k : Nat} {A : Option Addr} {l : List Sp} (h : Rd w B 3 A n (spCells l)) (hk : k < n) : ∃ ad s, A = some ad ∧ ad.block < B ∧ l[k]? = some s ∧ w.cell? (ad.add (k * 3)) = some (.int .i64 s.1) ∧
    w.cell? ⟨(ad.add (k * 3)).block, (ad.add (k * 3)).off + 1, none⟩ = some (.int .i64 s.2.1) ∧ w.cell? ⟨(ad.add (k * 3)).block, (ad.add (k * 3)).off + 2, none⟩ = some (.int .i64 s.2.2) := by
  obtain ⟨ad, e, hb, hc⟩ := h.2 (by omega)
  have hl : k < l.length := by have := h.1; rw [len_spCells] at this; omega
  have hs : l[k]? = some l[k] := List.getElem?_eq_getElem hl
  obtain ⟨a0, a1, a2⟩ := spCells_at l hs
  have c0 := hc _ _ a0
  have c1 := hc _ _ a1
  have c2 := hc _ _ a2
  rw [fld _ _ (by omega)] at c1 c2
  exact ⟨ad, l[k], e, hb, hs, c0, c1, c2⟩
theorem Rd.sp_len {w : World} {B n : Nat} {A : Option Addr} {l : List Sp} (h : Rd w B 3 A n (spCells l)) : l.length = n := by have := h.1; rw [len_spCells] at this; omega

def repSp : Rep Sp := Rep.int.pair (Rep.int.pair Rep.int)
theorem opens_sp : Rep.Opens Tryz.prog 74 repSp :=
  Rep.opens_struct Tryz.underlying74 (by kernel_rfl)
    (Rep.fopens_cons rfl (by kernel_rfl) (Rep.opens_int Tryz.underlying3) (Rep.fopens_cons rfl (by kernel_rfl) (Rep.opens_int Tryz.underlying3) (Rep.fopens_last rfl (by kernel_rfl) (Rep.opens_int Tryz.underlying3))))
theorem opens_sps : Rep.Opens Tryz.prog 32 repSp.list := Rep.opens_list Tryz.underlying32 (by kernel_rfl) (by decide) opens_sp
theorem repSp_cells {w : World} {B : Nat} {s : Sp} {cs : List Value} (h : repSp.cells w B s cs) : cs = spCell s ∧ spIn s := by
  obtain ⟨c, d, rfl, ⟨rfl, h1⟩, c', d', rfl, ⟨rfl, h2⟩, ⟨rfl, h3⟩⟩ := h
  exact ⟨rfl, h1, h2, h3⟩
theorem sps_rd {w : World} {B n c : Nat} {A : Option Addr} {l : List Sp} (h : repSp.Sl w B A n c l) : Rd w B 3 A n (spCells l) ∧ n = l.length ∧ n ≤ c ∧ c ≤ maxLen ∧ (A = none → c = 0) ∧ ∀ s ∈ l, spIn s := by
  obtain ⟨h1, h2, h3, h4, css, h5, h6⟩ := h
  have hf : css.flatten = spCells l ∧ ∀ s ∈ l, spIn s := by
    clear h5 h1
    induction l generalizing css with
    | nil => cases css with
      | nil => simp [spCells_nil]
      | cons b m => exact h6.elim
    | cons a l ih => cases css with
      | nil => exact h6.elim
      | cons b m =>
        obtain ⟨e1, e2⟩ := ih m h6.2
        obtain ⟨e3, e4⟩ := repSp_cells h6.1
        refine ⟨by rw [List.flatten_cons, e1, e3]; rfl, fun s hs => ?_⟩
        rcases List.mem_cons.1 hs with rfl | hs
        · exact e4
        · exact e2 s hs
  exact ⟨by rw [← hf.1]; exact h5, h1, h2, h3, h4, hf.2⟩
set_option maxRecDepth 100000 in
theorem elemSp : Elem Tryz.prog 32 74 3 24 := ⟨Tryz.underlying32, _, _, rfl, rfl, rfl, rfl, rfl, by omega⟩

end Go.Proofs.YtpahfobijmmmmaaGreat

namespace Go.Proofs.YtpahfobijmmmmaaGreat
open Go.RowKit

theorem run_from {P : Program} {t e size : Nat} (ht : P.underlying t = some (.slice e)) (hsz : ∀ w, (sizeOf e).run P w = .ok size w) (A : Option Addr) (n c k : Nat) (hk : k ≤ n) (x : Int) (hx : x = k) :
    ∃ A' c', (∀ w, (Instr.slice t (.slice A n c) (some (.int .i64 x)) none none).run P w = .ok (.slice A' (n - k) c') w) ∧ (∀ w B xs, n ≤ c → Rd w B size A n xs → Rd w B size A' (n - k) (xs.drop (k * size))) ∧ (n ≤ c → n - k ≤ c') ∧ c' ≤ c ∧ (∀ q, InRow A' q → InRow A q) ∧ A' = (if c = k then A else A.map (·.add (k * size))) ∧ c' = c - k := by
  refine ⟨if c = k then A else A.map (·.add (k * size)), c - k, fun w => ?_, fun w B xs hc h => h.cut hk hc, fun h => by omega, by omega, fun q hq => ?_, rfl, rfl⟩
  · subst hx
    simp [Instr.slice, run_underlying ht, Instr.sliceBounds, Instr.sliceBound, asIntOf, hsz, hk, Result.andThen]
  · obtain ⟨ad, h1, h2⟩ := hq
    split at h1
    · exact ⟨ad, h1, h2⟩
    · rcases A with _ | a0
      · cases h1
      · injection h1 with h1
        exact ⟨a0, rfl, by rw [← h2, ← h1, block_add]⟩

/-- 's[i:]', at the operation: one way, whatever the capacity -/
theorem wpList_from {P : Program} {w : World} {ops : Array Oper} {rest : List Oper} {o : Oper} {a : Act} {Q : Exit → Act → World → Prop} (hgd : o.guard = none) (s l : Operand) (t : TypeId) (ho : o.op = .slice t s (some l) none none)
    {e size : Nat} (ht : P.underlying t = some (.slice e)) (hsz : ∀ w, (sizeOf e).run P w = .ok size w) (A : Option Addr) (n c k : Nat) (hs : a.eval s = .slice A n c) (x : Int) (hl : a.eval l = .int .i64 x) (hx : x = k) (hk : k ≤ n)
    (h : ∀ A' c', Hid ((∀ w B xs, n ≤ c → Rd w B size A n xs → Rd w B size A' (n - k) (xs.drop (k * size))) ∧ (n ≤ c → n - k ≤ c') ∧ c' ≤ c ∧ (∀ q, InRow A' q → InRow A q)) → wpList P ops Q rest (a.put o.dst (.slice A' (n - k) c')) w) :
    wpList P ops Q (o :: rest) a w := by
  obtain ⟨A', c', h1, h2, h3, h4, h5, _⟩ := run_from (P := P) ht hsz A n c k hk x hx
  refine wpList_plain hgd fun K hK => ?_
  unfold Oper.wp
  simp only [execOp, ho, Option.map_some, Option.map_none, hs, hl]
  have he : P.underlying t = some (.slice (P.elem t)) := by simp [Program.elem, ht]
  simp only [Sem.run_bind, run_sliceAt_slice _ _ _ _ _ _ he, h1, Result.andThen, Sem.run_pure, Oper.upon]
  exact hK _ _ (h A' c' ⟨h2, h3, h4, h5⟩)

end Go.Proofs.YtpahfobijmmmmaaGreat

namespace Go.Proofs.YtpahfobijmmmmaaGreat
open Go.RowKit

/-- the front of a read slice -/
theorem Rd.front {w : World} {B size n k : Nat} {A : Option Addr} {xs : List Value} (h : Rd w B size A n xs) (hk : k ≤ n) : Rd w B size A k (xs.take (k * size)) := by
  refine ⟨?_, fun hp => ?_⟩
  · rw [List.length_take, h.1, Nat.min_eq_left (Nat.mul_le_mul_right _ hk)]
  · obtain ⟨ad, e, hb, hc⟩ := h.2 (by omega)
    refine ⟨ad, e, hb, fun j u hu => hc j u ?_⟩
    rw [List.getElem?_take] at hu
    split at hu
    · exact hu
    · cases hu

theorem run_cut {P : Program} {t e size : Nat} (ht : P.underlying t = some (.slice e)) (hsz : ∀ w, (sizeOf e).run P w = .ok size w) (A : Option Addr) (n c i j : Nat) (hij : i ≤ j) (hj : j ≤ n) (hc : n ≤ c) (lo : Option Value) (hlo : lo = some (.int .i64 i) ∨ lo = none ∧ i = 0) :
    ∃ A' c', (∀ w, (Instr.slice t (.slice A n c) lo (some (.int .i64 j)) none).run P w = .ok (.slice A' (j - i) c') w) ∧ (∀ w B xs, Rd w B size A n xs → Rd w B size A' (j - i) ((xs.take (j * size)).drop (i * size))) ∧ j - i ≤ c' ∧ c' ≤ c ∧ (∀ q, InRow A' q → InRow A q) := by
  have hjc : j ≤ c := by omega
  refine ⟨if c = i then A else A.map (·.add (i * size)), c - i, fun w => ?_, fun w B xs h => (h.front hj).cut hij hjc, by omega, by omega, fun q hq => ?_⟩
  · rcases hlo with rfl | ⟨rfl, rfl⟩
    · simp [Instr.slice, run_underlying ht, Instr.sliceBounds, Instr.sliceBound, asIntOf, hsz, hij, hjc, Result.andThen]
    · simp [Instr.slice, run_underlying ht, Instr.sliceBounds, Instr.sliceBound, asIntOf, hsz, hjc, Result.andThen]
  · obtain ⟨ad, h1, h2⟩ := hq
    split at h1
    · exact ⟨ad, h1, h2⟩
    · rcases A with _ | a0
      · cases h1
      · injection h1 with h1
        exact ⟨a0, rfl, by rw [← h2, ← h1, block_add]⟩

/-- 's[i:j]', at the operation -/
theorem wpList_cut {P : Program} {w : World} {ops : Array Oper} {rest : List Oper} {o : Oper} {a : Act} {Q : Exit → Act → World → Prop} (hgd : o.guard = none) (s l r : Operand) (t : TypeId) (ho : o.op = .slice t s (some l) (some r) none)
    {e size : Nat} (ht : P.underlying t = some (.slice e)) (hsz : ∀ w, (sizeOf e).run P w = .ok size w) (A : Option Addr) (n c i j m : Nat) (hs : a.eval s = .slice A n c) (x y : Int) (hl : a.eval l = .int .i64 x) (hr : a.eval r = .int .i64 y) (hx : x = i) (hy : y = j) (hm : j = i + m) (hj : j ≤ n) (hc : n ≤ c)
    (h : ∀ A' c', Hid ((∀ w B xs, Rd w B size A n xs → Rd w B size A' m ((xs.take (j * size)).drop (i * size))) ∧ m ≤ c' ∧ c' ≤ c ∧ (∀ q, InRow A' q → InRow A q)) → wpList P ops Q rest (a.put o.dst (.slice A' m c')) w) :
    wpList P ops Q (o :: rest) a w := by
  subst hx; subst hy
  have hij : i ≤ j := by omega
  obtain rfl : m = j - i := by omega
  obtain ⟨A', c', h1, h2, h3, h4, h5⟩ := run_cut (P := P) ht hsz A n c i j hij hj hc (some (.int .i64 i)) (.inl rfl)
  refine wpList_plain hgd fun K hK => ?_
  unfold Oper.wp
  simp only [execOp, ho, Option.map_some, Option.map_none, hs, hl, hr]
  have he : P.underlying t = some (.slice (P.elem t)) := by simp [Program.elem, ht]
  simp only [Sem.run_bind, run_sliceAt_slice _ _ _ _ _ _ he, h1, Result.andThen, Sem.run_pure, Oper.upon]
  exact hK _ _ (h A' c' ⟨h2, h3, h4, h5⟩)

/-- 's[:j]', at the operation -/
theorem wpList_upto {P : Program} {w : World} {ops : Array Oper} {rest : List Oper} {o : Oper} {a : Act} {Q : Exit → Act → World → Prop} (hgd : o.guard = none) (s r : Operand) (t : TypeId) (ho : o.op = .slice t s none (some r) none)
    {e size : Nat} (ht : P.underlying t = some (.slice e)) (hsz : ∀ w, (sizeOf e).run P w = .ok size w) (A : Option Addr) (n c j : Nat) (hs : a.eval s = .slice A n c) (y : Int) (hr : a.eval r = .int .i64 y) (hy : y = j) (hj : j ≤ n) (hc : n ≤ c)
    (h : ∀ A' c', Hid ((∀ w B xs, Rd w B size A n xs → Rd w B size A' j (xs.take (j * size))) ∧ j ≤ c' ∧ c' ≤ c ∧ (∀ q, InRow A' q → InRow A q)) → wpList P ops Q rest (a.put o.dst (.slice A' j c')) w) :
    wpList P ops Q (o :: rest) a w := by
  subst hy
  obtain ⟨A', c', h1, h2, h3, h4, h5⟩ := run_cut (P := P) ht hsz A n c 0 j (Nat.zero_le _) hj hc none (.inr ⟨rfl, rfl⟩)
  refine wpList_plain hgd fun K hK => ?_
  unfold Oper.wp
  simp only [execOp, ho, Option.map_some, Option.map_none, hs, hr]
  have he : P.underlying t = some (.slice (P.elem t)) := by simp [Program.elem, ht]
  simp only [Sem.run_bind, run_sliceAt_slice _ _ _ _ _ _ he, h1, Result.andThen, Sem.run_pure, Oper.upon]
  refine hK _ _ ?_
  rw [Nat.sub_zero] at *
  exact h A' c' ⟨fun w B xs hr => by simpa using h2 w B xs hr, h3, h4, h5⟩

end Go.Proofs.YtpahfobijmmmmaaGreat
