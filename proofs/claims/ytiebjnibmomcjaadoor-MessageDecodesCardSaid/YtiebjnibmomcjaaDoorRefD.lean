/- Chapter 5, plain: the document's Items and Get are the plain ones. -/
import Derived.Test.YtiebjnibmomcjaaDoorRefC
import Derived.Test.YtiebjnibmomcjaaDoorBdPackN
namespace Go.Proofs.YtiebjnibmomcjaaDoor
open Go.RowKit

theorem may70 : rMay 7 0 = true := by decide +kernel
/-- where the document's walk for Items stands, beside the plain one -/
def RI (s : SI) (t : RW) : Prop := t.Read = false ∧ t.V = s.rest ∧ t.Out = itemsOf s.out ∧ t.E = 0 ∧ 1 ≤ s.out.length ∧ (t.Place ≠ 0 → 0 ≤ t.Place ∧ s.out[t.Place.toNat]? = some (7, 0))
theorem RI_step (v : Int) (s : SI) (t : RW) (h : RI s t) : Alike2 (fun a b => a.1 = b.1 ∧ RI a.2 b.2) (valI v s) (valR v t) := by
  obtain ⟨h1, h2, h3, h4, h5, h6⟩ := h
  obtain ⟨rest, out⟩ := s
  obtain ⟨V, R, Bits, Out, Got, E, P⟩ := t
  simp only at h1 h2 h3 h4 h5 h6
  subst h1 h2 h3 h4
  unfold valI valR
  by_cases h7 : v = 7
  · subst h7
    rw [if_pos rfl]
    have e1 : oneE ⟨V, false, Bits, itemsOf out, Got, 0, P⟩ 7 = 0 := rfl
    have e2 : oneN ⟨V, false, Bits, itemsOf out, Got, 0, P⟩ 7 = 0 := rfl
    rw [if_neg (by rw [e1]; simp), e2, if_neg (by rw [may70]; simp)]
    refine ⟨rfl, rfl, rfl, ?_, rfl, by simp, fun _ => ?_⟩
    · simp [itemsOf, vWidth_eq]
    · simp [itemsOf]
  · rw [if_neg h7]
    cases V with
    | nil =>
      have e1 : oneE ⟨[], false, Bits, itemsOf out, Got, 0, P⟩ v = 20 := by simp [oneE, h7]
      rw [if_pos (by rw [e1]; decide), e1]
      rfl
    | cons n V =>
      have e1 : oneE ⟨n :: V, false, Bits, itemsOf out, Got, 0, P⟩ v = 0 := by simp [oneE, h7]
      have e2 : oneN ⟨n :: V, false, Bits, itemsOf out, Got, 0, P⟩ v = n := by simp [oneN, h7]
      rw [if_neg (by rw [e1]; simp), e2, ← vMay_eq]
      by_cases hm : vMay v n = true
      · simp only [if_pos hm]
        rw [if_neg (by rw [hm]; simp)]
        refine ⟨rfl, by simp [oneS, h7], by simp [oneS, h7], ?_, by simp [oneS, h7], by simp, ?_⟩
        · simp [itemsOf, vWidth_eq]
        · simp only [if_neg h7]
          intro hp
          obtain ⟨a, b⟩ := h6 hp
          exact ⟨a, by rw [List.getElem?_append_left (List.getElem?_eq_some_iff.1 b).1]; exact b⟩
      · simp only [if_neg hm]
        rw [if_pos (by simpa using hm)]
        rfl
theorem valR_place {v : Int} {t t' : RW} {n : Int} (h : valR v t = .ok (n, t')) : (1 ≤ t.Out.length → (t.Place ≠ 0 ∨ v = 7) → t'.Place ≠ 0) ∧ t.Out.length ≤ t'.Out.length := by
  unfold valR at h
  split at h
  · cases h
  split at h
  · cases h
  injection h with h
  injection h with _ h
  subst h
  refine ⟨fun h1 h2 => ?_, by simp⟩
  simp only
  split
  · omega
  · rcases h2 with h2 | h2
    · exact h2
    · contradiction
theorem walkR_place {T : Parts} {last : Int} {t t' : RW} (h : walkL valR T last t = .ok t') : (1 ≤ t.Out.length → t.Place ≠ 0 → t'.Place ≠ 0) ∧ t.Out.length ≤ t'.Out.length :=
  walk_inv (I := fun t t' => (1 ≤ t.Out.length → t.Place ≠ 0 → t'.Place ≠ 0) ∧ t.Out.length ≤ t'.Out.length) (fun _ => ⟨fun _ h => h, Nat.le_refl _⟩)
    (by rintro a b c ⟨h, g⟩ ⟨h', g'⟩; exact ⟨fun h1 h2 => h' (by omega) (h h1 h2), by omega⟩) (fun v s n s' h => ⟨fun h1 h2 => (valR_place h).1 h1 (.inl h2), (valR_place h).2⟩) T last t t' h
theorem lead_place {id : Int} {T : Parts} (hl : lead id T = true) {last : Int} {t t' : RW} (h1 : 1 ≤ t.Out.length) (h : walkL valR T last t = .ok t') : t'.Place ≠ 0 := by
  cases T with
  | nil => simp [lead] at hl
  | cons v wh l r =>
    cases l with
    | cons _ _ _ _ => simp [lead] at hl
    | nil =>
      simp only [lead] at hl
      by_cases hu : upP id = true
      · rw [if_pos hu] at hl
        simp only [Bool.and_eq_true, decide_eq_true_eq] at hl
        obtain ⟨⟨rfl, rfl⟩, hr⟩ := hl
        simp only [walkL, if_true] at h
        rcases hf : valR 7 t with e | ⟨n, s1⟩
        · rw [hf] at h; cases h
        · rw [hf] at h
          have a := valR_place hf
          exact (walkR_place h).1 (by omega) (a.1 h1 (.inr rfl))
      · rw [if_neg hu] at hl
        cases r with
        | nil => simp at hl
        | cons v' wh' l' r' =>
          cases l' with
          | cons _ _ _ _ => simp at hl
          | nil =>
            simp only [Bool.and_eq_true, decide_eq_true_eq] at hl
            obtain ⟨⟨rfl, rfl, rfl, rfl⟩, hr⟩ := hl
            simp only [walkL, if_true] at h
            rcases hf : valR 6 t with e | ⟨n, s1⟩
            · rw [hf] at h; cases h
            · rw [hf] at h
              simp only at h
              have a := valR_place hf
              rcases hf2 : valR 7 s1 with e | ⟨n2, s2⟩
              · rw [hf2] at h; cases h
              · rw [hf2] at h
                have b := valR_place hf2
                exact (walkR_place h).1 (by omega) (b.1 (by omega) (.inr rfl))

/-- the document's walk at its start, for Items -/
def rw0 (id : Int) (V : List Int) : RW := ⟨V, false, [], [(id, 8)], [], 0, 0⟩
theorem items_ref {id : Int} {V : List Int} {T : Parts} (hT : ptree id = some T) :
    (∃ s, walkL valI T 0 ⟨V, [(5, id)]⟩ = .ok s ∧ (runT T 0 (rw0 id V)).E = 0 ∧ (runT T 0 (rw0 id V)).V = s.rest ∧ (runT T 0 (rw0 id V)).Out = itemsOf s.out ∧ (s.rest = [] → (runT T 0 (rw0 id V)).Place = atP id)) ∨
    (∃ e, walkL valI T 0 ⟨V, [(5, id)]⟩ = .error e ∧ (runT T 0 (rw0 id V)).E = e ∧ e ≠ 0) := by
  have h0 : RI ⟨V, [(5, id)]⟩ (rw0 id V) := ⟨rfl, rfl, rfl, rfl, by simp, fun h => absurd rfl h⟩
  have hs := walk_sim RI_step T 0 _ _ h0
  have hw := runT_walk T 0 (rw0 id V) rfl
  cases h1 : walkL valI T 0 ⟨V, [(5, id)]⟩ with
  | error e =>
    rw [h1] at hs
    cases h2 : walkL valR T 0 (rw0 id V) with
    | error e' =>
      rw [h2] at hs hw
      obtain rfl : e = e' := hs
      exact .inr ⟨e, rfl, hw.1, hw.2⟩
    | ok t => rw [h2] at hs; exact hs.elim
  | ok s =>
    rw [h1] at hs
    cases h2 : walkL valR T 0 (rw0 id V) with
    | error e' => rw [h2] at hs; exact hs.elim
    | ok t =>
      rw [h2] at hs hw
      obtain ⟨rfl, hE⟩ := hw
      obtain ⟨g1, g2, g3, g4, g5, g6⟩ := hs
      refine .inl ⟨s, rfl, hE, g2, g3, fun hr => ?_⟩
      have hl := (ptree_chk hT).2.2.1
      obtain ⟨p1, p2⟩ := g6 (lead_place hl (by simp [rw0]) h2)
      have hok : itemsM id V = .ok s.out := by simp only [itemsM, hT, h1, hr, if_true]
      obtain ⟨T', tr, hT', ho, hM, _, _⟩ := itemsM_ok hok
      rw [hT] at hT'
      injection hT' with hT'
      subst hT'
      rw [ho] at p2
      obtain ⟨k, hk⟩ : ∃ k : Nat, (runT T 0 (rw0 id V)).Place = k := ⟨(runT T 0 (rw0 id V)).Place.toNat, by omega⟩
      rw [hk] at p2 ⊢
      rw [Int.toNat_natCast] at p2
      have key : ∀ (t : List (Int × Int)), (∀ x ∈ t, x.1 ≠ 7) → ∀ i : Nat, t[i]? ≠ some (7, 0) := fun t h7 i hi => h7 _ (List.mem_of_getElem? hi) rfl
      rcases trace_lead hl hM with ⟨hu, m, t, rfl, h7⟩ | ⟨hu, a, m, t, rfl, h7⟩
      · have : k = 1 := by
          match k, p2 with
          | 0, p2 => simp at p2
          | 1, _ => rfl
          | k + 2, p2 => simp only [List.getElem?_cons_succ] at p2; exact absurd p2 (key t h7 k)
        simp [atP, hu, this]
      · have : k = 2 := by
          match k, p2 with
          | 0, p2 => simp at p2
          | 1, p2 => simp at p2
          | 2, _ => rfl
          | k + 3, p2 => simp only [List.getElem?_cons_succ] at p2; exact absurd p2 (key t h7 k)
        simp [atP, hu, this]

/-- where the document's walk for Get stands, beside the plain one; L bits there were -/
def RG_ (L : Int) (s : SG) (t : RW) : Prop := t.Read = true ∧ t.Bits = s.bits ∧ t.Got = s.V ∧ t.E = 0 ∧ sumW t.Out + t.Bits.length = L ∧ 1 ≤ t.Out.length ∧ (∀ y ∈ t.Out, 0 ≤ y.2 ∧ y.2 ≤ 32) ∧ (t.Place ≠ 0 → 0 ≤ t.Place ∧ t.Out[t.Place.toNat]? = some (s.size, 13))
theorem width7 : vWidth 7 = 13 := by decide +kernel
theorem RG_step (L : Int) (v : Int) (hv5 : v ≠ 5) (s : SG) (t : RW) (h : RG_ L s t) : Alike2 (fun a b => a.1 = b.1 ∧ RG_ L a.2 b.2) (valG v s) (valR v t) := by
  obtain ⟨h1, h2, h3, h4, h5, h6, h7, h8⟩ := h
  obtain ⟨bits, size, V⟩ := s
  obtain ⟨V', R, Bits, Out, Got, E, P⟩ := t
  simp only at h1 h2 h3 h4 h5 h6 h7 h8
  subst h1 h2 h3 h4
  unfold valG valR
  have e1 : oneE ⟨V', true, Bits, Out, Got, 0, P⟩ v = getE Bits.length (vWidth v) := by simp [oneE, vWidth_eq]
  have e2 : oneN ⟨V', true, Bits, Out, Got, 0, P⟩ v = getN Bits (vWidth v) := by simp [oneN, vWidth_eq]
  rw [e1, e2, ← vMay_eq]
  by_cases hE : getE Bits.length (vWidth v) = 0
  · simp only [if_neg (show ¬ getE Bits.length (vWidth v) ≠ 0 by simpa using hE)]
    by_cases hm : vMay v (getN Bits (vWidth v)) = true
    · have hm' : ¬ (vMay v (getN Bits (vWidth v)) = false) := by rw [hm]; simp
      simp only [if_pos hm, if_neg hm']
      have hz := getE_zero hE
      have hl : ((getL Bits (vWidth v)).length : Int) = Bits.length - vWidth v := by rw [getL_eq hE, List.length_drop]; omega
      have hsum : sumW (Out ++ [(getN Bits (vWidth v), vWidth v)]) + ((getL Bits (vWidth v)).length : Int) = L := by rw [sumW_app, hl]; simp only [sumW, List.map_cons, List.map_nil, List.sum_cons, List.sum_nil] at h5 ⊢; omega
      have hw' : ∀ y ∈ Out ++ [(getN Bits (vWidth v), vWidth v)], 0 ≤ y.2 ∧ y.2 ≤ 32 := by
        intro y hy
        rcases List.mem_append.1 hy with hy | hy
        · exact h7 y hy
        · simp at hy; subst hy; simp only; omega
      by_cases hv7 : v = 7
      · subst hv7
        simp only [if_true]
        refine ⟨rfl, rfl, ?_, rfl, rfl, ?_, by simp, ?_, fun _ => ⟨by simp, ?_⟩⟩
        · simp [oneS, vWidth_eq]
        · simpa [oneS, vWidth_eq] using hsum
        · simpa [oneS, vWidth_eq] using hw'
        · simp [← vWidth_eq, width7]
      · simp only [if_neg hv7]
        refine ⟨rfl, rfl, ?_, ?_, rfl, ?_, by simp, ?_, ?_⟩
        · simp [oneS, vWidth_eq]
        · simp [hv7, hv5]
        · simpa [oneS, vWidth_eq] using hsum
        · simpa [oneS, vWidth_eq] using hw'
        · simp only [if_neg hv7]
          intro hp
          obtain ⟨a, b⟩ := h8 hp
          exact ⟨a, by rw [List.getElem?_append_left (List.getElem?_eq_some_iff.1 b).1]; exact b⟩
    · simp only [if_neg hm]
      rw [if_pos (by simpa using hm)]
      rfl
  · simp only [if_pos hE]
    rfl

def allV (p : Int → Bool) : Parts → Bool
  | .nil => true
  | .cons v wh l r => (if wh = 0 then p v else allV p l) && allV p r
theorem walk_sim_on {σ τ : Type} {R : σ → τ → Prop} {val : Val σ} {val' : Val τ} {p : Int → Bool} (h : ∀ v s t, p v = true → R s t → Alike2 (fun a b => a.1 = b.1 ∧ R a.2 b.2) (val v s) (val' v t)) :
    ∀ (T : Parts), allV p T = true → ∀ (last : Int) (s : σ) (t : τ), R s t → Alike2 R (walkL val T last s) (walkL val' T last t) := by
  intro T
  induction T with
  | nil => intro _ last s t hst; exact hst
  | cons v wh l r ihl ihr =>
    intro hp last s t hst
    simp only [allV, Bool.and_eq_true] at hp
    obtain ⟨hp1, hp2⟩ := hp
    have ihr := ihr hp2
    simp only [walkL]
    by_cases h0 : wh = 0
    · rw [if_pos h0] at hp1
      rw [if_pos h0, if_pos h0]
      have h1 := h v s t hp1 hst
      rcases hf : val v s with e | ⟨n, s'⟩ <;> rcases hg : val' v t with e' | ⟨n', t'⟩ <;> rw [hf, hg] at h1
      · exact h1
      · exact h1.elim
      · exact h1.elim
      · obtain ⟨rfl, h2⟩ := h1
        exact ihr _ _ _ h2
    · rw [if_neg h0] at hp1
      have ihl := ihl hp1
      rw [if_neg h0, if_neg h0]
      by_cases h1 : wh = 1
      · rw [if_pos h1, if_pos h1]
        have h2 := iter_sim (fun s t hst => ihl 0 s t hst) last.toNat s t hst
        cases hf : iterE (walkL val l 0) last.toNat s <;> cases hg : iterE (walkL val' l 0) last.toNat t <;> rw [hf, hg] at h2
        · exact h2
        · exact h2.elim
        · exact h2.elim
        · exact ihr _ _ _ h2
      · rw [if_neg h1, if_neg h1]
        by_cases h2 : last = 1 ∨ wh = 3 ∧ last = 2
        · rw [if_pos h2, if_pos h2]
          have h3 := ihl 0 s t hst
          cases hf : walkL val l 0 s <;> cases hg : walkL val' l 0 t <;> rw [hf, hg] at h3
          · exact h3
          · exact h3.elim
          · exact h3.elim
          · exact ihr _ _ _ h3
        · rw [if_neg h2, if_neg h2]
          exact ihr _ _ _ hst
def not5 (v : Int) : Bool := decide (v ≠ 5)
def chk5 (id : Int) : Bool := match ptree id with | some T => allV not5 T | none => true
theorem chk5_all : pids.all chk5 = true := by decide +kernel
theorem ptree_not5 {id : Int} {T : Parts} (h : ptree id = some T) : allV not5 T = true := by
  have := List.all_eq_true.1 chk5_all id (ptree_id h)
  unfold chk5 at this
  rw [h] at this
  exact this

/-- the document's walk at its start, for Get -/
def rg0 (l : List Bool) : RW := ⟨[], true, l, [], [], 0, 0⟩
/-- NID_PACKET is read -/
theorem get5_ref (l : List Bool) : (∃ e, valG 5 ⟨l, 0, []⟩ = .error e ∧ e ≠ 0 ∧ (oneR (rg0 l) 5).2.E = e) ∨
    (∃ id s1, valG 5 ⟨l, 0, []⟩ = .ok (id, s1) ∧ (oneR (rg0 l) 5).1 = id ∧ (oneR (rg0 l) 5).2 = ⟨[], true, s1.bits, [(id, 8)], [], 0, 0⟩ ∧ (s1.bits.length : Int) + 8 = l.length) := by
  have e1 : oneE (rg0 l) 5 = getE l.length (vWidth 5) := by simp [oneE, rg0, vWidth_eq]
  have e2 : oneN (rg0 l) 5 = getN l (vWidth 5) := by simp [oneN, rg0, vWidth_eq]
  have w5 : vWidth 5 = 8 := rfl
  by_cases hE : getE l.length (vWidth 5) = 0
  · by_cases hm : vMay 5 (getN l (vWidth 5)) = true
    · right
      have hz := getE_zero hE
      refine ⟨getN l (vWidth 5), ⟨getL l (vWidth 5), 0, [getN l (vWidth 5)]⟩, ?_, ?_, ?_, ?_⟩
      · unfold valG; simp only [if_neg (show ¬ getE l.length (vWidth 5) ≠ 0 by simpa using hE), if_pos hm]; rfl
      · unfold oneR; rw [if_neg (by simp [rg0]), if_neg (by rw [e1, hE]; simp), e2, if_neg (by rw [← vMay_eq, hm]; simp)]
      · unfold oneR; rw [if_neg (by simp [rg0]), if_neg (by rw [e1, hE]; simp), e2, if_neg (by rw [← vMay_eq, hm]; simp)]
        rw [← vWidth_eq, w5]
        simp only [oneS, rg0, if_true, ← vWidth_eq, w5]
        simp
      · rw [getL_eq hE, List.length_drop]; rw [w5] at hz ⊢; omega
    · left
      refine ⟨20, ?_, by decide, ?_⟩
      · unfold valG; simp only [if_neg (show ¬ getE l.length (vWidth 5) ≠ 0 by simpa using hE), if_neg hm]
      · unfold oneR; rw [if_neg (by simp [rg0]), if_neg (by rw [e1, hE]; simp), e2, if_pos (by rw [← vMay_eq]; simpa using hm)]
  · left
    refine ⟨getE l.length (vWidth 5), ?_, hE, ?_⟩
    · unfold valG; simp only [if_pos hE]
    · unfold oneR; rw [if_neg (by simp [rg0]), if_pos (by rw [e1]; exact hE), e1]
theorem get_ref {id : Int} {T : Parts} (hT : ptree id = some T) (bits : List Bool) (L : Int) (hL : (bits.length : Int) + 8 = L) :
    (∃ e, walkL valG T 0 ⟨bits, 0, []⟩ = .error e ∧ (runT T 0 ⟨[], true, bits, [(id, 8)], [], 0, 0⟩).E = e ∧ e ≠ 0) ∨
    (∃ s2, walkL valG T 0 ⟨bits, 0, []⟩ = .ok s2 ∧ (runT T 0 ⟨[], true, bits, [(id, 8)], [], 0, 0⟩).E = 0 ∧ (runT T 0 ⟨[], true, bits, [(id, 8)], [], 0, 0⟩).Got = s2.V ∧ sumW (runT T 0 ⟨[], true, bits, [(id, 8)], [], 0, 0⟩).Out = L - s2.bits.length ∧
      (∀ y ∈ (runT T 0 ⟨[], true, bits, [(id, 8)], [], 0, 0⟩).Out, 0 ≤ y.2 ∧ y.2 ≤ 32) ∧ 0 ≤ (runT T 0 ⟨[], true, bits, [(id, 8)], [], 0, 0⟩).Place ∧
      (runT T 0 ⟨[], true, bits, [(id, 8)], [], 0, 0⟩).Out[(runT T 0 ⟨[], true, bits, [(id, 8)], [], 0, 0⟩).Place.toNat]? = some (s2.size, 13)) := by
  generalize hst : (⟨[], true, bits, [(id, 8)], [], 0, 0⟩ : RW) = st
  have h0 : RG_ L ⟨bits, 0, []⟩ st := by
    subst hst
    refine ⟨rfl, rfl, rfl, rfl, ?_, by simp, by simp, fun h => absurd rfl h⟩
    show sumW [(id, 8)] + (bits.length : Int) = L
    simp [sumW]; omega
  have hs := walk_sim_on (p := not5) (fun v s t hp h => RG_step L v (by simpa [not5] using hp) s t h) T (ptree_not5 hT) 0 _ _ h0
  have hw := runT_walk T 0 st h0.2.2.2.1
  cases h1 : walkL valG T 0 ⟨bits, 0, []⟩ with
  | error e =>
    rw [h1] at hs
    cases h2 : walkL valR T 0 st with
    | error e' =>
      rw [h2] at hs hw
      obtain rfl : e = e' := hs
      exact .inl ⟨e, rfl, hw.1, hw.2⟩
    | ok t => rw [h2] at hs; exact hs.elim
  | ok s =>
    rw [h1] at hs
    cases h2 : walkL valR T 0 st with
    | error e' => rw [h2] at hs; exact hs.elim
    | ok t =>
      rw [h2] at hs hw
      obtain ⟨rfl, hE⟩ := hw
      obtain ⟨g1, g2, g3, g4, g5, g6, g7, g8⟩ := hs
      obtain ⟨p1, p2⟩ := g8 (lead_place (ptree_chk hT).2.2.1 (by rw [← hst]; simp) h2)
      exact .inr ⟨s, rfl, hE, g3, by rw [← g2]; omega, g7, p1, p2⟩

end Go.Proofs.YtiebjnibmomcjaaDoor
