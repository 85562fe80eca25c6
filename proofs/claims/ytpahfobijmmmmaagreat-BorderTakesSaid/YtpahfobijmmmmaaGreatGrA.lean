/- Chapter 18 (grant), the plain law: what ledgers are, what each call makes of one, and that it does so as the statements say. -/
import Derived.Test.YtpahfobijmmmmaaGreatSpnB
namespace Go.Proofs.YtpahfobijmmmmaaGreat

/-- T, Until, Ext, Lent -/
abbrev Ent := Int × Int × List Sp × Bool
/-- L, Here, Known -/
abbrev Ldg := List Ent × List Sp × Bool
def normM (l : List Sp) : List Sp := FormM l [] (true, false, false)
def minusM (a b : List Sp) : List Sp := FormM a b (true, false, false)
def bothM (a b : List Sp) : List Sp := FormM a b (false, false, true)
theorem normM_of (l : List Sp) : NormOf l (normM l) := by
  obtain ⟨h1, h2, _⟩ := FormM_ok l [] (true, false, false)
  exact ⟨h1, fun e a => by unfold normM; rw [h2]; simp [wantB, hasL_nil]⟩
theorem normM_eq {l m : List Sp} (h : NormOf l m) : m = normM l := h.one (normM_of l)
theorem minusM_n (a b : List Sp) : NormalS (minusM a b) := (FormM_ok a b _).1
theorem bothM_n (a b : List Sp) : NormalS (bothM a b) := (FormM_ok a b _).1
theorem minusM_has (a b : List Sp) (e x : Int) : hasL (minusM a b) e x = (hasL a e x && !hasL b e x) := by unfold minusM; rw [(FormM_ok a b _).2.1]; simp [wantB]
theorem bothM_has (a b : List Sp) (e x : Int) : hasL (bothM a b) e x = (hasL a e x && hasL b e x) := by unfold bothM; rw [(FormM_ok a b _).2.1]; simp [wantB]
theorem normM_has (l : List Sp) (e x : Int) : hasL (normM l) e x = hasL l e x := (normM_of l).2 e x
def normB (l : List Sp) : Bool := decide (normM l = l)
theorem normB_iff {l : List Sp} : normB l = true ↔ NormalS l := by
  unfold normB
  rw [decide_eq_true_eq]
  exact ⟨fun h => by rw [← h]; exact (normM_of l).1, fun h => ((normM_of l).one (NormOf.self h))⟩

theorem nodup_len : ∀ {α : Type} [DecidableEq α] {l S : List α}, l.Nodup → (∀ x ∈ l, x ∈ S) → l.length ≤ S.length
  | _, _, [], S, _, _ => by simp
  | _, _, x :: l, S, h, hs => by
    have h1 := List.nodup_cons.1 h
    have hx := hs x (by simp)
    have := nodup_len (S := S.erase x) h1.2 (fun y hy => (List.mem_erase_of_ne (fun e => h1.1 (by rw [← e]; exact hy))).2 (hs y (by simp [hy])))
    rw [List.length_erase_of_mem hx] at this
    have : 0 < S.length := List.length_pos_of_mem hx
    rw [List.length_cons]; omega
theorem normal_nodup {m : List Sp} (h : NormalS m) : (m.map fun s => (s.1, s.2.1)).Nodup := by
  rw [List.nodup_iff_pairwise_ne, List.pairwise_map]
  refine h.2.imp_of_mem ?_
  intro s t hs ht hsep e
  have h1 := someS_iff.1 (h.1 s hs)
  injection e with e1 e2
  rcases hsep with h2 | ⟨_, h2⟩ <;> omega
/-- where a list of pieces has a decimetre, and not the one ahead of it, some piece begins -/
theorem rise_lo {l : List Sp} {e p : Int} (h1 : hasL l e p = true) (h2 : hasL l e (p - 1) = false) : (e, p) ∈ l.map fun s => (s.1, s.2.1) := by
  obtain ⟨s, hs, hm, he, ha, hb⟩ := hasL_iff.1 h1
  refine List.mem_map.2 ⟨s, hs, ?_⟩
  have : s.2.1 = p := by
    apply Classical.byContradiction
    intro hn
    have : hasL l e (p - 1) = true := hasL_iff.2 ⟨s, hs, hm, he, by omega, by omega⟩
    rw [h2] at this; cases this
  rw [he, this]
theorem fall_hi {l : List Sp} {e p : Int} (h1 : hasL l e p = false) (h2 : hasL l e (p - 1) = true) : (e, p) ∈ l.map fun s => (s.1, s.2.2) := by
  obtain ⟨s, hs, hm, he, ha, hb⟩ := hasL_iff.1 h2
  refine List.mem_map.2 ⟨s, hs, ?_⟩
  have : s.2.2 = p := by
    apply Classical.byContradiction
    intro hn
    have : hasL l e p = true := hasL_iff.2 ⟨s, hs, hm, he, by omega, by omega⟩
    rw [h1] at this; cases this
  rw [he, this]
/-- the first decimetre of a piece of a normal form, and the one ahead of it -/
theorem normal_edge {m : List Sp} (h : NormalS m) {s : Sp} (hs : s ∈ m) : hasL m s.1 s.2.1 = true ∧ hasL m s.1 (s.2.1 - 1) = false := by
  have h1 := someS_iff.1 (h.1 s hs)
  refine ⟨hasL_iff.2 ⟨s, hs, h.1 s hs, rfl, by omega, by omega⟩, ?_⟩
  rw [← not_true_iff]
  intro hx
  obtain ⟨t, ht, hm, he, ha, hb⟩ := hasL_iff.1 hx
  have ht1 := someS_iff.1 hm
  have := h.2
  obtain ⟨i, hi, rfl⟩ := List.mem_iff_getElem.1 hs
  obtain ⟨j, hj, rfl⟩ := List.mem_iff_getElem.1 ht
  rw [List.pairwise_iff_getElem] at this
  rcases Nat.lt_trichotomy i j with hij | hij | hij
  · have := this i j hi hj hij
    rcases this with h | ⟨_, h⟩ <;> omega
  · subst hij; omega
  · have := this j i hj hi hij
    rcases this with h | ⟨_, h⟩ <;> omega
theorem bothM_len (a b : List Sp) : (bothM a b).length ≤ a.length + b.length := by
  have h := nodup_len (S := (a.map fun s => (s.1, s.2.1)) ++ (b.map fun s => (s.1, s.2.1))) (normal_nodup (bothM_n a b)) (by
    intro x hx
    obtain ⟨s, hs, rfl⟩ := List.mem_map.1 hx
    obtain ⟨h1, h2⟩ := normal_edge (bothM_n a b) hs
    rw [bothM_has, Bool.and_eq_true] at h1
    rw [bothM_has, Bool.and_eq_false_iff] at h2
    rw [List.mem_append]
    rcases h2 with h2 | h2
    · exact .inl (rise_lo h1.1 h2)
    · exact .inr (rise_lo h1.2 h2))
  simpa using h
theorem minusM_len (a b : List Sp) : (minusM a b).length ≤ a.length + b.length := by
  have h := nodup_len (S := (a.map fun s => (s.1, s.2.1)) ++ (b.map fun s => (s.1, s.2.2))) (normal_nodup (minusM_n a b)) (by
    intro x hx
    obtain ⟨s, hs, rfl⟩ := List.mem_map.1 hx
    obtain ⟨h1, h2⟩ := normal_edge (minusM_n a b) hs
    rw [minusM_has, Bool.and_eq_true, Bool.not_eq_true'] at h1
    rw [minusM_has, Bool.and_eq_false_iff, Bool.not_eq_false'] at h2
    rw [List.mem_append]
    rcases h2 with h2 | h2
    · exact .inl (rise_lo h1.1 h2)
    · exact .inr (fall_hi h1.2 h2))
  simpa using h
theorem normM_len (a : List Sp) : (normM a).length ≤ a.length := by
  have h := nodup_len (S := a.map fun s => (s.1, s.2.1)) (normal_nodup (normM_of a).1) (by
    intro x hx
    obtain ⟨s, hs, rfl⟩ := List.mem_map.1 hx
    obtain ⟨h1, h2⟩ := normal_edge (normM_of a).1 hs
    rw [normM_has] at h1 h2
    exact rise_lo h1 h2)
  simpa using h
/-- nothing is had just by the empty list -/
theorem normal_nil {m : List Sp} (h : NormalS m) : m = [] ↔ ∀ e x, hasL m e x = false := by
  constructor
  · rintro rfl e x; rfl
  · intro hx
    cases m with
    | nil => rfl
    | cons s m => have := h.head; rw [hx] at this; cases this

def entB (e : Ent) : Bool := decide (0 ≤ e.1) && decide (e.1 ≤ 4294967294) && decide (0 ≤ e.2.1) && decide (e.2.1 ≤ 1099511627776) && decide (0 < e.2.2.1.length) && normB e.2.2.1
def listB : Int → List Ent → Bool
  | _, [] => true
  | t, e :: l => entB e && decide (t ≤ e.1) && listB e.1 l
def lastT : Int → List Ent → Int
  | t, [] => t
  | _, e :: l => lastT e.1 l
def mayL (l : Ldg) : Bool := decide (l.1.length ≤ 32) && listB 0 l.1 && normB l.2.1 && (l.2.2 || decide (l.2.1.length = 0))
theorem listB_app : ∀ (a b : List Ent) (t : Int), listB t (a ++ b) = (listB t a && listB (lastT t a) b)
  | [], b, t => by simp [listB, lastT]
  | e :: a, b, t => by simp only [List.cons_append, listB, lastT, listB_app a b, Bool.and_assoc]
theorem lastT_get : ∀ (a : List Ent) (t : Int), lastT t a = match a.getLast? with | some e => e.1 | none => t
  | [], t => rfl
  | [e], t => rfl
  | e :: f :: a, t => by rw [lastT, lastT_get (f :: a), List.getLast?_cons_cons]; cases h : (f :: a).getLast? with
    | none => simp at h
    | some g => rfl
theorem listB_ent {t : Int} {l : List Ent} (h : listB t l = true) : ∀ e ∈ l, entB e = true := by
  induction l generalizing t with
  | nil => simp
  | cons e l ih =>
    simp only [listB, Bool.and_eq_true, decide_eq_true_eq] at h
    intro x hx
    rcases List.mem_cons.1 hx with rfl | hx
    · exact h.1.1
    · exact ih h.2 x hx
theorem listB_lower {t u : Int} {l : List Ent} (h : listB t l = true) (hu : u ≤ t) : listB u l = true := by
  cases l with
  | nil => rfl
  | cons e l =>
    simp only [listB, Bool.and_eq_true, decide_eq_true_eq] at h ⊢
    exact ⟨⟨h.1.1, by omega⟩, h.2⟩
def exts (l : List Ent) : List Sp := l.flatMap fun e => e.2.2.1
def heldM (l : Ldg) : List Sp := if mayL l = true then normM (l.2.1 ++ exts l.1) else []
def meetsM (a b : List Sp) : Bool := decide (0 < (bothM a b).length)
def withinM (a b : List Sp) : Bool := decide ((minusM a b).length = 0)
def freeM (l : Ldg) (x : List Sp) : Bool := mayL l && l.2.2 && !meetsM (heldM l) x
/-- what is left of entries -/
def leftM (f : Ent → List Sp) (l : List Ent) : List Ent := (l.map fun e => (e.1, e.2.1, f e, e.2.2.2)).filter fun e => decide (0 < e.2.2.1.length)
def noL : Ldg := ([], [], false)
def turnM (f : Ent → List Sp) (l : Ldg) : Ldg × Int := if mayL l = true then ((leftM f l.1, l.2.1, l.2.2), 0) else (noL, 1)
def addM (l : Ldg) (es : List Ent) : Ldg × Int :=
  if mayL l = true ∧ listB (lastT 0 l.1) es = true then (if 32 < l.1.length + es.length then (noL, 3) else ((l.1 ++ es, l.2.1, l.2.2), 0)) else (noL, 1)
def expF (now : Int) (e : Ent) : List Sp := if e.2.1 ≤ now then [] else e.2.2.1
def shoF (t : Int) (keep : List Sp) (e : Ent) : List Sp := if e.2.2.2 = true ∨ t ≤ e.1 then e.2.2.1 else bothM e.2.2.1 keep
def staF (behind : List Sp) (e : Ent) : List Sp := minusM e.2.2.1 behind
def expireM (l : Ldg) (now : Int) : Ldg × Int := turnM (expF now) l
def shortenM (l : Ldg) (t : Int) (keep : List Sp) : Ldg × Int := turnM (shoF t keep) l
def standsM (l : Ldg) (here behind : List Sp) : Ldg × Int := if mayL l = true then ((leftM (staF behind) l.1, normM here, true), 0) else (noL, 1)
def lostM (l : Ldg) : Ldg × Int := if mayL l = true then ((l.1, [], false), 0) else (noL, 1)
/-- Kind, N, E, X, Y -/
abbrev Op18 := Int × Int × List Ent × List Sp × List Sp
def doM (l : Ldg) (o : Op18) : Ldg × Int :=
  if o.1 = 0 then addM l o.2.2.1 else if o.1 = 1 then expireM l o.2.1 else if o.1 = 2 then shortenM l o.2.1 o.2.2.2.1 else if o.1 = 3 then standsM l o.2.2.2.1 o.2.2.2.2 else if o.1 = 4 then lostM l else (l, 0)
def doneM (l : Ldg) (o : Op18) : Ldg := if (doM l o).2 = 0 then (doM l o).1 else l

theorem mayL_iff {l : Ldg} : mayL l = true ↔ l.1.length ≤ 32 ∧ listB 0 l.1 = true ∧ NormalS l.2.1 ∧ (l.2.2 = true ∨ l.2.1.length = 0) := by
  unfold mayL
  simp only [Bool.and_eq_true, Bool.or_eq_true, decide_eq_true_eq, normB_iff, and_assoc]
theorem entB_iff {e : Ent} : entB e = true ↔ 0 ≤ e.1 ∧ e.1 ≤ 4294967294 ∧ 0 ≤ e.2.1 ∧ e.2.1 ≤ 1099511627776 ∧ 0 < e.2.2.1.length ∧ NormalS e.2.2.1 := by
  unfold entB
  simp only [Bool.and_eq_true, decide_eq_true_eq, normB_iff, and_assoc]
theorem noL_may : mayL noL = true := by rw [mayL_iff]; exact ⟨by simp [noL], rfl, NormalS.nil, .inr rfl⟩
theorem leftM_nil (f : Ent → List Sp) : leftM f [] = [] := rfl
theorem leftM_cons (f : Ent → List Sp) (e : Ent) (l : List Ent) : leftM f (e :: l) = if 0 < (f e).length then (e.1, e.2.1, f e, e.2.2.2) :: leftM f l else leftM f l := by
  unfold leftM
  rw [List.map_cons, List.filter_cons]
  simp only [decide_eq_true_eq]
theorem leftM_app (f : Ent → List Sp) (l m : List Ent) : leftM f (l ++ m) = leftM f l ++ leftM f m := by unfold leftM; rw [List.map_append, List.filter_append]
theorem leftM_mem {f : Ent → List Sp} {l : List Ent} {x : Ent} : x ∈ leftM f l ↔ ∃ e ∈ l, x = (e.1, e.2.1, f e, e.2.2.2) ∧ 0 < (f e).length := by
  unfold leftM
  rw [List.mem_filter, List.mem_map]
  constructor
  · rintro ⟨⟨e, he, rfl⟩, h⟩; exact ⟨e, he, rfl, by simpa using h⟩
  · rintro ⟨e, he, rfl, h⟩; exact ⟨⟨e, he, rfl⟩, by simpa using h⟩
theorem leftM_list {f : Ent → List Sp} : ∀ {l : List Ent} {t : Int}, listB t l = true → (∀ e ∈ l, NormalS (f e)) → listB t (leftM f l) = true
  | [], t, _, _ => rfl
  | e :: l, t, h, hf => by
    simp only [listB, Bool.and_eq_true, decide_eq_true_eq] at h
    have ih := leftM_list (f := f) h.2 (fun x hx => hf x (by simp [hx]))
    rw [leftM_cons]
    split
    · rename_i hp
      simp only [listB, Bool.and_eq_true, decide_eq_true_eq]
      have he := entB_iff.1 h.1.1
      exact ⟨⟨entB_iff.2 ⟨he.1, he.2.1, he.2.2.1, he.2.2.2.1, hp, hf e (by simp)⟩, h.1.2⟩, ih⟩
    · exact listB_lower ih h.1.2
theorem leftM_len (f : Ent → List Sp) (l : List Ent) : (leftM f l).length ≤ l.length := by
  unfold leftM; exact Nat.le_trans (List.length_filter_le _ _) (by rw [List.length_map]; exact Nat.le_refl _)
theorem exts_mem {l : List Ent} {e x : Int} : hasL (exts l) e x = true ↔ ∃ n ∈ l, hasL n.2.2.1 e x = true := by
  induction l with
  | nil => simp [exts, hasL]
  | cons a l ih =>
    unfold exts at ih ⊢
    rw [List.flatMap_cons, hasL_app, Bool.or_eq_true, ih]
    simp
theorem normal_f {l : List Ent} {t : Int} (h : listB t l = true) : ∀ e ∈ l, NormalS e.2.2.1 := fun e he => (entB_iff.1 (listB_ent h e he)).2.2.2.2.2
theorem expF_n {now : Int} {l : List Ent} {t : Int} (h : listB t l = true) : ∀ e ∈ l, NormalS (expF now e) := fun e he => by
  unfold expF; split
  · exact NormalS.nil
  · exact normal_f h e he
theorem shoF_n {s : Int} {k : List Sp} {l : List Ent} {t : Int} (h : listB t l = true) : ∀ e ∈ l, NormalS (shoF s k e) := fun e he => by
  unfold shoF; split
  · exact normal_f h e he
  · exact bothM_n _ _
/-- a call that is answered leaves a ledger that may be -/
theorem done_may {l : Ldg} (h : mayL l = true) (o : Op18) : mayL (doneM l o) = true := by
  obtain ⟨h1, h2, h3, h4⟩ := mayL_iff.1 h
  have hturn : ∀ f, (∀ e ∈ l.1, NormalS (f e)) → mayL (leftM f l.1, l.2.1, l.2.2) = true := fun f hf =>
    mayL_iff.2 ⟨Nat.le_trans (leftM_len f l.1) h1, leftM_list h2 hf, h3, h4⟩
  unfold doneM
  split
  case isFalse => exact h
  case isTrue he =>
    unfold doM at he ⊢
    split
    · rename_i k0
      rw [if_pos k0] at he
      unfold addM at he ⊢
      split
      · rename_i hp
        rw [if_pos hp] at he
        split
        · rename_i hl; rw [if_pos hl] at he; simp at he
        · rename_i hl
          refine mayL_iff.2 ⟨by rw [List.length_append]; omega, ?_, h3, h4⟩
          rw [listB_app, h2, hp.2]; rfl
      · rename_i hp; rw [if_neg hp] at he; simp at he
    · split
      · unfold expireM turnM; rw [if_pos h]; exact hturn _ (expF_n h2)
      · split
        · unfold shortenM turnM; rw [if_pos h]; exact hturn _ (shoF_n h2)
        · split
          · unfold standsM; rw [if_pos h]
            exact mayL_iff.2 ⟨Nat.le_trans (leftM_len _ l.1) h1, leftM_list h2 (fun e _ => minusM_n _ _), (normM_of _).1, .inl rfl⟩
          · split
            · unfold lostM; rw [if_pos h]; exact mayL_iff.2 ⟨h1, h2, NormalS.nil, .inr rfl⟩
            · exact h
/-- what is held, decimetre by decimetre -/
theorem held_has {l : Ldg} (h : mayL l = true) (e x : Int) : hasL (heldM l) e x = true ↔ hasL l.2.1 e x = true ∨ ∃ n ∈ l.1, hasL n.2.2.1 e x = true := by
  unfold heldM
  rw [if_pos h, normM_has, hasL_app, Bool.or_eq_true, exts_mem]
theorem heldM_n (l : Ldg) : NormalS (heldM l) := by
  unfold heldM; split
  · exact (normM_of _).1
  · exact NormalS.nil

/-- how great a ledger is -/
structure Bnd (k : Nat) (l : Ldg) : Prop where
  n : l.1.length ≤ 40
  e : ∀ e ∈ l.1, e.2.2.1.length ≤ k
  h : l.2.1.length ≤ k
structure OpBnd (o : Op18) : Prop where
  n : o.2.2.1.length ≤ 40
  e : ∀ e ∈ o.2.2.1, e.2.2.1.length ≤ 20
  x : o.2.2.2.1.length ≤ 20
  y : o.2.2.2.2.length ≤ 20
theorem leftM_bnd {f : Ent → List Sp} {k : Nat} {l : List Ent} (h : ∀ e ∈ l, (f e).length ≤ k) : ∀ e ∈ leftM f l, e.2.2.1.length ≤ k := by
  intro x hx
  obtain ⟨e, he, rfl, _⟩ := leftM_mem.1 hx
  exact h e he
theorem done_bnd {l : Ldg} {o : Op18} {k : Nat} (hm : mayL l = true) (hb : Bnd k l) (ho : OpBnd o) : Bnd (k + 20) (doneM l o) := by
  have hb' : Bnd (k + 20) l := ⟨hb.n, fun e he => by have := hb.e e he; omega, by have := hb.h; omega⟩
  have hmd := mayL_iff.1 (done_may hm o)
  refine ⟨by have := hmd.1; omega, ?_, ?_⟩
  · unfold doneM
    split
    case isFalse => exact hb'.e
    case isTrue he =>
      unfold doM at he ⊢
      split
      · rename_i k0
        rw [if_pos k0] at he
        unfold addM at he ⊢
        split
        · rename_i hp
          rw [if_pos hp] at he
          split
          · rename_i hl; rw [if_pos hl] at he; simp at he
          · intro e he
            rcases List.mem_append.1 he with he | he
            · exact hb'.e e he
            · have := ho.e e he; omega
        · rename_i hp; rw [if_neg hp] at he; simp at he
      · split
        · unfold expireM turnM; rw [if_pos hm]
          refine leftM_bnd fun e he => ?_
          unfold expF; split
          · simp
          · exact hb'.e e he
        · split
          · unfold shortenM turnM; rw [if_pos hm]
            refine leftM_bnd fun e he => ?_
            unfold shoF; split
            · exact hb'.e e he
            · have := bothM_len e.2.2.1 o.2.2.2.1; have := hb.e e he; have := ho.x; omega
          · split
            · unfold standsM; rw [if_pos hm]
              refine leftM_bnd fun e he => ?_
              unfold staF
              have := minusM_len e.2.2.1 o.2.2.2.2; have := hb.e e he; have := ho.y; omega
            · split
              · unfold lostM; rw [if_pos hm]; exact hb'.e
              · exact hb'.e
  · unfold doneM
    split
    case isFalse => exact hb'.h
    case isTrue he =>
      unfold doM at he ⊢
      split
      · rename_i k0
        rw [if_pos k0] at he
        unfold addM at he ⊢
        split
        · rename_i hp
          rw [if_pos hp] at he
          split
          · rename_i hl; rw [if_pos hl] at he; simp at he
          · exact hb'.h
        · rename_i hp; rw [if_neg hp] at he; simp at he
      · split
        · unfold expireM turnM; rw [if_pos hm]; exact hb'.h
        · split
          · unfold shortenM turnM; rw [if_pos hm]; exact hb'.h
          · split
            · unfold standsM; rw [if_pos hm]; show (normM o.2.2.2.1).length ≤ k + 20; have := normM_len o.2.2.2.1; have := ho.x; omega
            · split
              · unfold lostM; rw [if_pos hm]; show 0 ≤ k + 20; omega
              · exact hb'.h

/-- GrantKeeps: some entry of x's name has the decimetre -/
def HasX (x : Ent) (edge at_ : Int) (l : Ldg) : Prop := mayL l = true ∧ ∃ e ∈ l.1, e.1 = x.1 ∧ e.2.1 = x.2.1 ∧ e.2.2.2 = x.2.2.2 ∧ hasL e.2.2.1 edge at_ = true
def goneB (x : Ent) (edge at_ : Int) (o : Op18) : Bool :=
  (decide (o.1 = 1) && decide (x.2.1 ≤ o.2.1)) || (decide (o.1 = 2) && !x.2.2.2 && decide (x.1 < o.2.1) && !hasL o.2.2.2.1 edge at_) || (decide (o.1 = 3) && hasL o.2.2.2.2 edge at_)
theorem keeps_add {l : Ldg} {x : Ent} {edge at_ : Int} (h : (addM l [x]).2 = 0) (hx : hasL x.2.2.1 edge at_ = true) : HasX x edge at_ (addM l [x]).1 := by
  unfold addM at h ⊢
  split at h
  · rename_i hp
    rw [if_pos hp]
    split at h
    · simp at h
    · rename_i hl
      rw [if_neg hl]
      obtain ⟨h1, h2, h3, h4⟩ := mayL_iff.1 hp.1
      refine ⟨mayL_iff.2 ⟨by rw [List.length_append]; omega, by rw [listB_app, h2, hp.2]; rfl, h3, h4⟩, x, by simp, rfl, rfl, rfl, hx⟩
  · simp at h
theorem hasL_pos {l : List Sp} {e x : Int} (h : hasL l e x = true) : 0 < l.length := by
  cases l with
  | nil => cases h
  | cons a l => simp
theorem left_has {f : Ent → List Sp} {l : List Ent} {x : Ent} {edge at_ : Int} (h : ∃ e ∈ l, e.1 = x.1 ∧ e.2.1 = x.2.1 ∧ e.2.2.2 = x.2.2.2 ∧ hasL e.2.2.1 edge at_ = true)
    (hf : ∀ e, e.1 = x.1 → e.2.1 = x.2.1 → e.2.2.2 = x.2.2.2 → hasL e.2.2.1 edge at_ = true → hasL (f e) edge at_ = true) : ∃ e ∈ leftM f l, e.1 = x.1 ∧ e.2.1 = x.2.1 ∧ e.2.2.2 = x.2.2.2 ∧ hasL e.2.2.1 edge at_ = true := by
  obtain ⟨e, he, h1, h2, h3, h4⟩ := h
  have h5 := hf e h1 h2 h3 h4
  exact ⟨_, leftM_mem.2 ⟨e, he, rfl, hasL_pos h5⟩, h1, h2, h3, h5⟩
theorem keeps_step {l : Ldg} {x : Ent} {edge at_ : Int} (h : HasX x edge at_ l) (o : Op18) (hg : goneB x edge at_ o = false) : HasX x edge at_ (doneM l o) := by
  refine ⟨done_may h.1 o, ?_⟩
  obtain ⟨hm, hx⟩ := h
  unfold goneB at hg
  simp only [Bool.or_eq_false_iff, Bool.and_eq_false_iff, Bool.not_eq_false', decide_eq_false_iff_not] at hg
  unfold doneM
  split
  case isFalse => exact hx
  case isTrue he =>
    unfold doM at he ⊢
    split
    · rename_i k0
      rw [if_pos k0] at he
      unfold addM at he ⊢
      split
      · rename_i hp
        rw [if_pos hp] at he
        split
        · rename_i hl; rw [if_pos hl] at he; simp at he
        · obtain ⟨e, he, h1⟩ := hx
          exact ⟨e, List.mem_append.2 (.inl he), h1⟩
      · rename_i hp; rw [if_neg hp] at he; simp at he
    · split
      · rename_i k1
        unfold expireM turnM; rw [if_pos hm]
        refine left_has hx fun e h1 h2 h3 h4 => ?_
        unfold expF; rw [if_neg (by rcases hg.1.1 with h | h; exact absurd k1 h; omega)]; exact h4
      · split
        · rename_i k2
          unfold shortenM turnM; rw [if_pos hm]
          refine left_has hx fun e h1 h2 h3 h4 => ?_
          unfold shoF
          split
          · exact h4
          · rename_i hn
            rw [bothM_has, h4]
            rcases hg.1.2 with ((h | h) | h) | h
            · exact absurd k2 h
            · exact absurd (.inl (by rw [h3]; exact h)) hn
            · exact absurd (.inr (by omega)) hn
            · rw [h]; rfl
        · split
          · rename_i k3
            unfold standsM; rw [if_pos hm]
            refine left_has hx fun e h1 h2 h3 h4 => ?_
            unfold staF
            rw [minusM_has, h4]
            rcases hg.2 with h | h
            · exact absurd k3 h
            · rw [h]; rfl
          · split
            · unfold lostM; rw [if_pos hm]; exact hx
            · exact hx
theorem keeps_held {l : Ldg} {x : Ent} {edge at_ : Int} (h : HasX x edge at_ l) : hasL (heldM l) edge at_ = true := by
  obtain ⟨e, he, _, _, _, h4⟩ := h.2
  exact (held_has h.1 _ _).2 (.inr ⟨e, he, h4⟩)

/-- GrantAdds: what no call names is not held -/
def namedB (edge at_ : Int) (o : Op18) : Bool := (decide (o.1 = 0) && o.2.2.1.any fun e => hasL e.2.2.1 edge at_) || (decide (o.1 = 3) && hasL o.2.2.2.1 edge at_)
def NotX (edge at_ : Int) (l : Ldg) : Prop := hasL l.2.1 edge at_ = false ∧ ∀ e ∈ l.1, hasL e.2.2.1 edge at_ = false
theorem left_not {f : Ent → List Sp} {l : List Ent} {edge at_ : Int} (h : ∀ e ∈ l, hasL (f e) edge at_ = false) : ∀ e ∈ leftM f l, hasL e.2.2.1 edge at_ = false := by
  intro x hx
  obtain ⟨e, he, rfl, _⟩ := leftM_mem.1 hx
  exact h e he
theorem adds_step {l : Ldg} {edge at_ : Int} (hm : mayL l = true) (h : NotX edge at_ l) (o : Op18) (hg : namedB edge at_ o = false) : NotX edge at_ (doneM l o) := by
  unfold namedB at hg
  simp only [Bool.or_eq_false_iff, Bool.and_eq_false_iff, decide_eq_false_iff_not] at hg
  unfold doneM
  split
  case isFalse => exact h
  case isTrue he =>
    unfold doM at he ⊢
    split
    · rename_i k0
      rw [if_pos k0] at he
      unfold addM at he ⊢
      split
      · rename_i hp
        rw [if_pos hp] at he
        split
        · rename_i hl; rw [if_pos hl] at he; simp at he
        · refine ⟨h.1, fun e he => ?_⟩
          rcases List.mem_append.1 he with he | he
          · exact h.2 e he
          · rcases hg.1 with hg | hg
            · exact absurd k0 hg
            · rw [List.any_eq_false] at hg
              exact not_true_iff.1 (hg e he)
      · rename_i hp; rw [if_neg hp] at he; simp at he
    · split
      · unfold expireM turnM; rw [if_pos hm]
        refine ⟨h.1, left_not fun e he => ?_⟩
        unfold expF; split
        · rfl
        · exact h.2 e he
      · split
        · unfold shortenM turnM; rw [if_pos hm]
          refine ⟨h.1, left_not fun e he => ?_⟩
          unfold shoF; split
          · exact h.2 e he
          · rw [bothM_has, h.2 e he]; rfl
        · split
          · rename_i k3
            unfold standsM; rw [if_pos hm]
            refine ⟨?_, left_not fun e he => ?_⟩
            · show hasL (normM o.2.2.2.1) edge at_ = false
              rw [normM_has]
              rcases hg.2 with h | h
              · exact absurd k3 h
              · exact h
            · unfold staF; rw [minusM_has, h.2 e he]; rfl
          · split
            · unfold lostM; rw [if_pos hm]; exact ⟨rfl, h.2⟩
            · exact h
theorem adds_held {l : Ldg} {edge at_ : Int} (hm : mayL l = true) (h : NotX edge at_ l) : hasL (heldM l) edge at_ = false := by
  rw [← not_true_iff, held_has hm]
  rintro (h1 | ⟨e, he, h1⟩)
  · rw [h.1] at h1; cases h1
  · rw [h.2 e he] at h1; cases h1

/-- GrantFrees -/
theorem meetsM_iff {a b : List Sp} : meetsM a b = true ↔ ∃ e x, hasL a e x = true ∧ hasL b e x = true := by
  unfold meetsM
  rw [decide_eq_true_eq]
  constructor
  · intro h
    apply Classical.byContradiction
    intro hn
    have : bothM a b = [] := (normal_nil (bothM_n a b)).2 fun e x => by
      rw [bothM_has, ← not_true_iff, Bool.and_eq_true]
      rintro ⟨h1, h2⟩; exact hn ⟨e, x, h1, h2⟩
    rw [this] at h; simp at h
  · rintro ⟨e, x, h1, h2⟩
    exact hasL_pos (e := e) (x := x) (by rw [bothM_has, h1, h2]; rfl)
theorem withinM_iff {a b : List Sp} : withinM a b = true ↔ ∀ e x, hasL a e x = true → hasL b e x = true := by
  unfold withinM
  rw [decide_eq_true_eq, List.length_eq_zero_iff, normal_nil (minusM_n a b)]
  constructor
  · intro h e x h1
    have := h e x
    rw [minusM_has, h1] at this
    simpa using this
  · intro h e x
    rw [minusM_has]
    cases h1 : hasL a e x with
    | false => rfl
    | true => rw [h e x h1]; rfl
theorem free_within {l : Ldg} {x y : List Sp} (h : freeM l x = true) (hw : withinM y x = true) : freeM l y = true := by
  unfold freeM at h ⊢
  simp only [Bool.and_eq_true, Bool.not_eq_true'] at h ⊢
  refine ⟨h.1, ?_⟩
  rw [← not_true_iff, meetsM_iff]
  rintro ⟨e, a, h1, h2⟩
  have : meetsM (heldM l) x = true := meetsM_iff.2 ⟨e, a, h1, withinM_iff.1 hw e a h2⟩
  rw [h.2] at this; cases this
theorem lost_within {l : Ldg} {x : List Sp} (h : mayL l = true) : freeM (lostM l).1 x = false ∧ withinM (heldM (lostM l).1) (heldM l) = true := by
  have hl : lostM l = ((l.1, [], false), 0) := by unfold lostM; rw [if_pos h]
  have hm : mayL (l.1, ([] : List Sp), false) = true := by
    obtain ⟨h1, h2, h3, h4⟩ := mayL_iff.1 h
    exact mayL_iff.2 ⟨h1, h2, NormalS.nil, .inr rfl⟩
  rw [hl]
  refine ⟨by unfold freeM; simp, withinM_iff.2 fun e a h1 => ?_⟩
  rw [held_has hm] at h1
  rw [held_has h]
  rcases h1 with h1 | h1
  · cases h1
  · exact .inr h1

/-- GrantOrder -/
theorem left_left {f g k : Ent → List Sp} : ∀ {l : List Ent}, (∀ e ∈ l, (0 < (f e).length → g (e.1, e.2.1, f e, e.2.2.2) = k e) ∧ ((f e).length = 0 → (k e).length = 0)) → leftM g (leftM f l) = leftM k l
  | [], _ => rfl
  | e :: l, h => by
    have ih := left_left (l := l) (fun x hx => h x (by simp [hx]))
    have h0 := h e (by simp)
    rw [leftM_cons, leftM_cons (f := k)]
    split
    · rename_i hp
      rw [leftM_cons, h0.1 hp, ih]
    · rename_i hp
      rw [ih, if_neg (by have := h0.2 (by omega); omega)]
theorem order_exp {l : Ldg} (h : mayL l = true) (a b : Int) : expireM (expireM l a).1 b = expireM l (if b > a then b else a) := by
  obtain ⟨h1, h2, h3, h4⟩ := mayL_iff.1 h
  have hx : expireM l a = ((leftM (expF a) l.1, l.2.1, l.2.2), 0) := by unfold expireM turnM; rw [if_pos h]
  have hm : mayL (leftM (expF a) l.1, l.2.1, l.2.2) = true := mayL_iff.2 ⟨Nat.le_trans (leftM_len _ _) h1, leftM_list h2 (expF_n h2), h3, h4⟩
  rw [hx]
  unfold expireM turnM
  rw [if_pos hm, if_pos h]
  simp only
  rw [left_left (k := expF (if b > a then b else a))]
  intro e he
  unfold expF
  constructor
  · intro hp
    split at hp
    · simp at hp
    · rename_i hn
      rw [if_neg hn]
      simp only
      by_cases hb : e.2.1 ≤ b
      · rw [if_pos hb, if_pos (by split <;> omega)]
      · rw [if_neg hb, if_neg (by split <;> omega)]
  · intro hp
    split at hp
    · rw [if_pos (by split <;> omega)]; rfl
    · have := (entB_iff.1 (listB_ent h2 e he)).2.2.2.2.1; omega
theorem both_both (a x y : List Sp) : bothM (bothM a x) y = bothM a (bothM x y) :=
  normal_one (bothM_n _ _) (bothM_n _ _) fun e p => by rw [bothM_has, bothM_has, bothM_has, bothM_has, Bool.and_assoc]
theorem order_sho {l : Ldg} (h : mayL l = true) (t : Int) (x y : List Sp) : shortenM (shortenM l t x).1 t y = shortenM l t (bothM x y) := by
  obtain ⟨h1, h2, h3, h4⟩ := mayL_iff.1 h
  have hx : shortenM l t x = ((leftM (shoF t x) l.1, l.2.1, l.2.2), 0) := by unfold shortenM turnM; rw [if_pos h]
  have hm : mayL (leftM (shoF t x) l.1, l.2.1, l.2.2) = true := mayL_iff.2 ⟨Nat.le_trans (leftM_len _ _) h1, leftM_list h2 (shoF_n h2), h3, h4⟩
  rw [hx]
  unfold shortenM turnM
  rw [if_pos hm, if_pos h]
  simp only
  rw [left_left (k := shoF t (bothM x y))]
  intro e he
  unfold shoF
  by_cases hl : e.2.2.2 = true ∨ t ≤ e.1
  · simp only [if_pos hl]
    exact ⟨fun _ => trivial, fun hp => hp⟩
  · simp only [if_neg hl]
    refine ⟨fun _ => both_both _ _ _, fun hp => ?_⟩
    rw [List.length_eq_zero_iff] at hp ⊢
    rw [← both_both, hp]
    refine (normal_nil (bothM_n _ _)).2 fun e p => ?_
    rw [bothM_has]; rfl
theorem expireM_ok {l : Ldg} (h : mayL l = true) (a : Int) : (expireM l a).2 = 0 ∧ mayL (expireM l a).1 = true := by
  have := done_may h (1, a, [], [], [])
  have h2 : expireM l a = ((leftM (expF a) l.1, l.2.1, l.2.2), 0) := by unfold expireM turnM; rw [if_pos h]
  refine ⟨by rw [h2], ?_⟩
  unfold doneM doM at this
  simp only [show ¬ ((1 : Int) = 0) by omega, if_false, if_true] at this
  rw [if_pos (by rw [h2])] at this
  exact this
theorem shortenM_ok {l : Ldg} (h : mayL l = true) (a : Int) (x : List Sp) : (shortenM l a x).2 = 0 ∧ mayL (shortenM l a x).1 = true := by
  have := done_may h (2, a, [], x, [])
  have h2 : shortenM l a x = ((leftM (shoF a x) l.1, l.2.1, l.2.2), 0) := by unfold shortenM turnM; rw [if_pos h]
  refine ⟨by rw [h2], ?_⟩
  unfold doneM doM at this
  simp only [show ¬ ((2 : Int) = 0) by omega, show ¬ ((2 : Int) = 1) by omega, if_false, if_true] at this
  rw [if_pos (by rw [h2])] at this
  exact this

/-- the document's way: entries by Until; the list as a whole -/
theorem ref_exp {l : Ldg} (h : mayL l = true) (now : Int) : leftM (expF now) l.1 = l.1.filter fun e => decide (now < e.2.1) := by
  have h2 := (mayL_iff.1 h).2.1
  have hp : ∀ e ∈ l.1, 0 < e.2.2.1.length := fun e he => (entB_iff.1 (listB_ent h2 e he)).2.2.2.2.1
  generalize l.1 = m at hp
  clear h h2
  induction m with
  | nil => rfl
  | cons e m ih =>
    rw [leftM_cons, List.filter_cons, ih (fun x hx => hp x (by simp [hx]))]
    unfold expF
    by_cases hu : e.2.1 ≤ now
    · rw [if_pos hu]; simp; omega
    · rw [if_neg hu, if_pos (hp e (by simp)), if_pos (by simp; omega)]
theorem lastT_zero {a : List Ent} : lastT 0 a = lastT 0 a := rfl
theorem ref_add (l : Ldg) (es : List Ent) (h : mayL l = true) : listB 0 (l.1 ++ es) = listB (lastT 0 l.1) es := by
  rw [listB_app, (mayL_iff.1 h).2.1]; rfl

end Go.Proofs.YtpahfobijmmmmaaGreat
