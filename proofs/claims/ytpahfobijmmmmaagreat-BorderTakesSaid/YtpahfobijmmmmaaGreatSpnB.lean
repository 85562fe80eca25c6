/- Chapter 15, plainly: how many decimetres spans have; the document's Form. No program. -/
import Derived.Test.YtpahfobijmmmmaaGreatBdSpnA
namespace Go.Proofs.YtpahfobijmmmmaaGreat

/-- how many decimetres -/
def cntL (l : List Sp) : Int := (l.map fun s => s.2.2 - s.2.1).sum
theorem countP_or {α : Type} (p q : α → Bool) : ∀ (l : List α), (∀ x ∈ l, ¬ (p x = true ∧ q x = true)) → l.countP (fun x => p x || q x) = l.countP p + l.countP q
  | [], _ => rfl
  | x :: l, h => by
    have ih := countP_or p q l (fun y hy => h y (by simp [hy]))
    have hx := h x (by simp)
    simp only [List.countP_cons, ih]
    cases hp : p x <;> cases hq : q x <;> simp [hp, hq] at hx ⊢ <;> omega
theorem countP_span (lo hi : Int) (h0 : 0 ≤ lo) (h1 : lo ≤ hi) : ∀ N : Nat, (((List.range N).countP fun (k : Nat) => decide (lo ≤ (k : Int)) && decide ((k : Int) < hi) : Nat) : Int) = min hi N - min lo N
  | 0 => by simp; omega
  | N + 1 => by
    have ih := countP_span lo hi h0 h1 N
    rw [List.range_succ, List.countP_append, Int.natCast_add, ih]
    simp only [List.countP_cons, List.countP_nil]
    by_cases hc : lo ≤ (N : Int) ∧ (N : Int) < hi
    · simp [hc.1, hc.2]; omega
    · have : (decide (lo ≤ (N : Int)) && decide ((N : Int) < hi)) = false := by rw [← not_true_iff, Bool.and_eq_true, decide_eq_true_eq, decide_eq_true_eq]; exact hc
      simp [this]; omega
/-- as many decimetres as there are in a grid -/
def tot (l : List Sp) (N K : Nat) : Nat := ((List.range K).map fun (k : Nat) => (List.range N).countP fun (j : Nat) => hasL l (k : Int) (j : Int)).sum
theorem sum_add {f g : Nat → Nat} : ∀ K : Nat, ((List.range K).map fun k => f k + g k).sum = ((List.range K).map f).sum + ((List.range K).map g).sum
  | 0 => rfl
  | K + 1 => by simp only [List.range_succ, List.map_append, List.sum_append, sum_add K, List.map_cons, List.map_nil, List.sum_cons, List.sum_nil]; omega
theorem sum_congr {f g : Nat → Nat} : ∀ K : Nat, (∀ k < K, f k = g k) → ((List.range K).map f).sum = ((List.range K).map g).sum
  | 0, _ => rfl
  | K + 1, h => by
    have := h K (by omega)
    simp only [List.range_succ, List.map_append, List.sum_append, sum_congr K (fun k hk => h k (by omega)), List.map_cons, List.map_nil, List.sum_cons, List.sum_nil, this]
theorem sum_one (c d : Nat) : ∀ K : Nat, ((List.range K).map fun k => if k = c then d else 0).sum = if c < K then d else 0
  | 0 => by simp
  | K + 1 => by
    simp only [List.range_succ, List.map_append, List.sum_append, sum_one c d K, List.map_cons, List.map_nil, List.sum_cons, List.sum_nil]
    split <;> split <;> split <;> omega
theorem sum_zero : ∀ K : Nat, ((List.range K).map fun _ => 0).sum = 0
  | 0 => rfl
  | K + 1 => by simp only [List.range_succ, List.map_append, List.sum_append, sum_zero K, List.map_cons, List.map_nil, List.sum_cons, List.sum_nil, Nat.add_zero]
theorem tot_cons {s : Sp} {l : List Sp} (h : NormalS (s :: l)) {N K : Nat} (hN : 1000000 ≤ N) (hK : s.1.toNat < K) : (tot (s :: l) N K : Int) = s.2.2 - s.2.1 + tot l N K := by
  have hs := someS_iff.1 (h.1 s (by simp))
  have e1 : tot (s :: l) N K = ((List.range K).map fun (k : Nat) => (if k = s.1.toNat then (s.2.2 - s.2.1).toNat else 0) + (List.range N).countP fun (j : Nat) => hasL l (k : Int) (j : Int)).sum := by
    unfold tot
    refine sum_congr K fun k _ => ?_
    have : (fun j : Nat => hasL (s :: l) (k : Int) (j : Int)) = fun j : Nat => hasS s (k : Int) (j : Int) || hasL l (k : Int) (j : Int) := by
      funext j; rw [hasL_cons, h.1 s (by simp), Bool.true_and]
    rw [this, countP_or _ _ _ (fun j _ hj => by
      have h1 := hasS_iff.1 hj.1
      have h2 := h.behind hj.2
      omega)]
    congr 1
    split
    · rename_i hk
      have : (fun j : Nat => hasS s (k : Int) (j : Int)) = fun j : Nat => decide (s.2.1 ≤ (j : Int)) && decide ((j : Int) < s.2.2) := by
        funext j; unfold hasS; rw [decide_eq_true (show s.1 = (k : Int) by omega), Bool.true_and]
      rw [this]
      have h2 := countP_span s.2.1 s.2.2 (by omega) (by omega) N
      omega
    · rename_i hk
      rw [List.countP_eq_zero]
      intro j _
      rw [hasS_iff]; omega
  rw [e1, sum_add, sum_one, if_pos hK]
  unfold tot
  omega
theorem tot_cnt {N K : Nat} (hN : 1000000 ≤ N) : ∀ {l : List Sp}, NormalS l → (∀ s ∈ l, s.1.toNat < K) → (tot l N K : Int) = cntL l
  | [], _, _ => by
    have : tot [] N K = 0 := by
      unfold tot
      rw [sum_congr (g := fun _ => 0) K (fun k _ => by rw [List.countP_eq_zero]; intro j _; simp [hasL_nil])]
      exact sum_zero K
    rw [this]; rfl
  | s :: l, h, hK => by
    rw [tot_cons h hN (hK s (by simp)), tot_cnt hN h.tail (fun t ht => hK t (by simp [ht]))]
    simp [cntL]
theorem edge_bound : ∀ l : List Sp, ∃ K : Nat, ∀ s ∈ l, s.1.toNat < K
  | [] => ⟨0, by simp⟩
  | s :: l => by
    obtain ⟨K, hK⟩ := edge_bound l
    refine ⟨max K (s.1.toNat + 1), fun t ht => ?_⟩
    rcases List.mem_cons.1 ht with rfl | ht
    · omega
    · have := hK t ht; omega
theorem cnt_parts {a c m : List Sp} (ha : NormalS a) (hc : NormalS c) (hm : NormalS m) (h : ∀ e x, hasL a e x = (hasL c e x || hasL m e x)) (hd : ∀ e x, ¬ (hasL c e x = true ∧ hasL m e x = true)) : cntL c + cntL m = cntL a := by
  obtain ⟨K1, h1⟩ := edge_bound a
  obtain ⟨K2, h2⟩ := edge_bound c
  obtain ⟨K3, h3⟩ := edge_bound m
  obtain ⟨N, hN⟩ : ∃ N : Nat, 1000000 ≤ N := ⟨1000000, Nat.le_refl _⟩
  have t1 := tot_cnt (K := max K1 (max K2 K3)) hN ha (fun s hs => by have := h1 s hs; omega)
  have t2 := tot_cnt (K := max K1 (max K2 K3)) hN hc (fun s hs => by have := h2 s hs; omega)
  have t3 := tot_cnt (K := max K1 (max K2 K3)) hN hm (fun s hs => by have := h3 s hs; omega)
  have : tot a N (max K1 (max K2 K3)) = tot c N (max K1 (max K2 K3)) + tot m N (max K1 (max K2 K3)) := by
    unfold tot
    rw [← sum_add]
    refine sum_congr _ fun k _ => ?_
    have : (fun j : Nat => hasL a (k : Int) (j : Int)) = fun j : Nat => hasL c (k : Int) (j : Int) || hasL m (k : Int) (j : Int) := by funext j; exact h _ _
    rw [this, countP_or _ _ _ (fun j _ => hd _ _)]
  omega
theorem cntL_range {l : List Sp} (h : NormalS l) : 0 ≤ cntL l ∧ cntL l ≤ 1000000 * l.length := by
  induction l with
  | nil => simp [cntL]
  | cons s l ih =>
    have h1 := ih h.tail
    have h2 := someS_iff.1 (h.1 s (by simp))
    simp only [cntL, List.map_cons, List.sum_cons, List.length_cons] at h1 ⊢
    omega

/-- numbers that rise, with one more -/
def withM : List Int → Int → List Int
  | [], n => [n]
  | x :: l, n => if x = n then x :: l else if n < x then n :: x :: l else x :: withM l n
theorem withM_mem : ∀ (l : List Int) (n x : Int), x ∈ withM l n ↔ x ∈ l ∨ x = n
  | [], n, x => by simp [withM]
  | y :: l, n, x => by
    unfold withM
    split
    · rename_i h; subst h; simp only [List.mem_cons]; constructor
      · intro h; exact .inl h
      · rintro (h | h)
        · exact h
        · exact .inl h
    · split
      · simp only [List.mem_cons]; constructor
        · rintro (h | h | h)
          · exact .inr h
          · exact .inl (.inl h)
          · exact .inl (.inr h)
        · rintro ((h | h) | h)
          · exact .inr (.inl h)
          · exact .inr (.inr h)
          · exact .inl h
      · rw [List.mem_cons, withM_mem l n x, List.mem_cons, or_assoc]
theorem withM_rise : ∀ {l : List Int} {n : Int}, l.Pairwise (· < ·) → (withM l n).Pairwise (· < ·)
  | [], n, _ => by simp [withM]
  | y :: l, n, h => by
    have hc := List.pairwise_cons.1 h
    unfold withM
    split
    · exact h
    · split
      · rename_i h1 h2
        rw [List.pairwise_cons]
        refine ⟨fun x hx => ?_, h⟩
        rcases List.mem_cons.1 hx with rfl | hx
        · exact h2
        · have := hc.1 x hx; omega
      · rename_i h1 h2
        rw [List.pairwise_cons]
        refine ⟨fun x hx => ?_, withM_rise hc.2⟩
        rcases (withM_mem _ _ _).1 hx with hx | rfl
        · exact hc.1 x hx
        · omega
theorem withM_len (l : List Int) (n : Int) : (withM l n).length ≤ l.length + 1 := by
  induction l with
  | nil => simp [withM]
  | cons x l ih => unfold withM; split <;> (try split) <;> simp <;> omega
def edgesM (all : List Sp) : List Int := all.foldl (fun E s => withM E s.1) []
def endsM (all : List Sp) : List Int := all.foldl (fun E s => withM (withM E s.2.1) s.2.2) []
theorem edges_ok : ∀ (l : List Sp) (E : List Int), E.Pairwise (· < ·) → (l.foldl (fun E s => withM E s.1) E).Pairwise (· < ·) ∧ (∀ x, x ∈ l.foldl (fun E s => withM E s.1) E ↔ x ∈ E ∨ ∃ s ∈ l, x = s.1) ∧ (l.foldl (fun E s => withM E s.1) E).length ≤ E.length + l.length
  | [], E, h => ⟨h, by simp, by simp⟩
  | s :: l, E, h => by
    obtain ⟨h1, h2, h3⟩ := edges_ok l (withM E s.1) (withM_rise h)
    refine ⟨h1, fun x => ?_, ?_⟩
    · rw [List.foldl_cons, h2, withM_mem]
      simp [or_assoc]
    · have := withM_len E s.1
      simp only [List.foldl_cons, List.length_cons]; omega
theorem ends_ok : ∀ (l : List Sp) (E : List Int), E.Pairwise (· < ·) → (l.foldl (fun E s => withM (withM E s.2.1) s.2.2) E).Pairwise (· < ·) ∧ (∀ x, x ∈ l.foldl (fun E s => withM (withM E s.2.1) s.2.2) E ↔ x ∈ E ∨ ∃ s ∈ l, x = s.2.1 ∨ x = s.2.2) ∧ (l.foldl (fun E s => withM (withM E s.2.1) s.2.2) E).length ≤ E.length + 2 * l.length
  | [], E, h => ⟨h, by simp, by simp⟩
  | s :: l, E, h => by
    obtain ⟨h1, h2, h3⟩ := ends_ok l (withM (withM E s.2.1) s.2.2) (withM_rise (withM_rise h))
    refine ⟨h1, fun x => ?_, ?_⟩
    · rw [List.foldl_cons, h2, withM_mem, withM_mem]
      simp [or_assoc]
    · have := withM_len E s.2.1
      have := withM_len (withM E s.2.1) s.2.2
      simp only [List.foldl_cons, List.length_cons]; omega

/-- the round over two neighbours of all ends -/
def rowStep (f : Int → Bool) (e p q : Int) (opn : Bool) (out : List Sp) : List Sp :=
  if f p = true then (if opn = true then (match out.getLast? with | some t => out.dropLast ++ [(t.1, t.2.1, q)] | none => out) else out ++ [(e, p, q)]) else out
def rowF (f : Int → Bool) (e : Int) : List Int → Bool → List Sp → List Sp
  | p :: q :: r, opn, out => rowF f e (q :: r) (f p) (rowStep f e p q opn out)
  | _, _, out => out
/-- some two neighbours p, q of the list have a between them, and f p -/
def betw (f : Int → Bool) (a : Int) : List Int → Bool
  | p :: q :: r => (f p && decide (p ≤ a) && decide (a < q)) || betw f a (q :: r)
  | _ => false
/-- out, ahead of edge e's place p -/
def ahead (e p : Int) (opn : Bool) (out : List Sp) : Prop :=
  if opn = true then ∃ l t, out = l ++ [t] ∧ t.1 = e ∧ t.2.2 = p else ∀ t ∈ out, t.1 < e ∨ (t.1 = e ∧ t.2.2 < p)
theorem betw_le {f : Int → Bool} {a : Int} : ∀ {p : Int} {l : List Int}, (p :: l).Pairwise (· < ·) → betw f a (p :: l) = true → p ≤ a
  | p, [], _, h => by simp [betw] at h
  | p, q :: r, hp, h => by
    have hc := List.pairwise_cons.1 hp
    rw [betw, Bool.or_eq_true, Bool.and_eq_true, Bool.and_eq_true, decide_eq_true_eq, decide_eq_true_eq] at h
    rcases h with h | h
    · exact h.1.2
    · have := betw_le hc.2 h
      have := hc.1 q (by simp)
      omega
theorem rowF_ok (f : Int → Bool) (e : Int) : ∀ {ends : List Int} {opn : Bool} {out : List Sp}, ends.Pairwise (· < ·) → (∀ p ∈ ends, ∀ q ∈ ends, p < q → f p = true → (∀ x ∈ ends, ¬ (p < x ∧ x < q)) → someS (e, p, q) = true) → NormalS out →
    (match ends with | p :: _ => ahead e p opn out | [] => True) →
    NormalS (rowF f e ends opn out) ∧ (∀ e' a, hasL (rowF f e ends opn out) e' a = (hasL out e' a || (decide (e' = e) && betw f a ends))) ∧ (∀ t ∈ rowF f e ends opn out, t ∈ out ∨ t.1 = e) ∧ (rowF f e ends opn out).length ≤ out.length + ends.length
  | [], opn, out, _, _, h, _ => ⟨h, fun e' a => by simp [rowF, betw], fun t ht => .inl ht, by simp [rowF]⟩
  | [p], opn, out, _, _, h, _ => ⟨h, fun e' a => by simp [rowF, betw], fun t ht => .inl ht, by simp [rowF]⟩
  | p :: q :: r, opn, out, hr, hsm, h, ha => by
    have hc := List.pairwise_cons.1 hr
    have hpq := hc.1 q (by simp)
    have hsm' : ∀ p' ∈ q :: r, ∀ q' ∈ q :: r, p' < q' → f p' = true → (∀ x ∈ q :: r, ¬ (p' < x ∧ x < q')) → someS (e, p', q') = true := by
      intro p' hp' q' hq' hlt hf hx
      refine hsm p' (List.mem_cons_of_mem _ hp') q' (List.mem_cons_of_mem _ hq') hlt hf fun x hxm => ?_
      rcases List.mem_cons.1 hxm with rfl | hxm
      · have := hc.1 p' hp'; omega
      · exact hx x hxm
    have hone : f p = true → someS (e, p, q) = true := fun hf => hsm p (by simp) q (by simp) hpq hf fun x hxm => by
      rcases List.mem_cons.1 hxm with rfl | hxm
      · omega
      · rcases List.mem_cons.1 hxm with rfl | hxm
        · omega
        · have := (List.pairwise_cons.1 hc.2).1 x hxm; omega
    simp only at ha
    -- the round
    have hstep : NormalS (rowStep f e p q opn out) ∧ (∀ e' a, hasL (rowStep f e p q opn out) e' a = (hasL out e' a || (decide (e' = e) && (f p && decide (p ≤ a) && decide (a < q))))) ∧ ahead e q (f p) (rowStep f e p q opn out) ∧ (∀ t ∈ rowStep f e p q opn out, t ∈ out ∨ t.1 = e) ∧ (rowStep f e p q opn out).length ≤ out.length + 1 := by
      unfold rowStep
      cases hf : f p with
      | false =>
        simp only [Bool.false_eq_true, if_false]
        refine ⟨h, fun e' a => by simp, ?_, fun t ht => .inl ht, by omega⟩
        unfold ahead at ha ⊢
        simp only [Bool.false_eq_true, if_false]
        intro t ht
        cases hopn : opn with
        | false =>
          rw [hopn] at ha
          simp only [Bool.false_eq_true, if_false] at ha
          have := ha t ht; omega
        | true =>
          rw [hopn] at ha
          simp only [if_true] at ha
          obtain ⟨l, t0, rfl, h1, h2⟩ := ha
          rcases List.mem_append.1 ht with ht | ht
          · have h4 := (List.pairwise_append.1 h.2).2.2 t ht t0 (by simp)
            have h5 := someS_iff.1 (h.1 t0 (by simp))
            unfold sepS at h4; omega
          · simp at ht; subst ht; omega
      | true =>
        have hs1 := hone hf
        have hs2 := someS_iff.1 hs1
        simp only at hs2
        simp only [if_true]
        cases hopn : opn with
        | false =>
          rw [hopn] at ha
          unfold ahead at ha
          simp only [Bool.false_eq_true, if_false] at ha ⊢
          refine ⟨⟨?_, ?_⟩, fun e' a => ?_, ?_, ?_, by simp⟩
          · intro x hx
            rcases List.mem_append.1 hx with hx | hx
            · exact h.1 x hx
            · simp at hx; subst hx; exact hs1
          · rw [List.pairwise_append]
            refine ⟨h.2, by simp, fun x hx y hy => ?_⟩
            simp at hy; subst hy
            exact ha x hx
          · rw [hasL_app, hasL_cons, hasL_nil, hs1, Bool.or_false]
            congr 1
            apply bool_ext
            simp [hasS]
            omega
          · unfold ahead; simp only [if_true]; exact ⟨out, (e, p, q), rfl, rfl, rfl⟩
          · intro t ht
            rcases List.mem_append.1 ht with ht | ht
            · exact .inl ht
            · simp at ht; subst ht; exact .inr rfl
        | true =>
          rw [hopn] at ha
          unfold ahead at ha
          simp only [if_true] at ha ⊢
          obtain ⟨l, t, rfl, h1, h2⟩ := ha
          have ht := someS_iff.1 (h.1 t (by simp))
          have hpw := List.pairwise_append.1 h.2
          simp only [List.getLast?_append, List.getLast?_singleton, Option.some_or, List.dropLast_concat]
          have hst : someS (t.1, t.2.1, q) = true := by rw [someS_iff]; simp only; omega
          refine ⟨⟨?_, ?_⟩, fun e' a => ?_, ?_, ?_, by simp⟩
          · intro x hx
            rcases List.mem_append.1 hx with hx | hx
            · exact h.1 x (by simp [hx])
            · simp at hx; subst hx; exact hst
          · rw [List.pairwise_append]
            refine ⟨hpw.1, by simp, fun x hx y hy => ?_⟩
            simp at hy; subst hy
            exact hpw.2.2 x hx t (by simp)
          · rw [hasL_app, hasL_app, Bool.or_assoc]
            congr 1
            rw [hasL_cons, hasL_cons, hasL_nil, hst, h.1 t (by simp)]
            apply bool_ext
            simp [hasS]
            omega
          · unfold ahead; simp only [if_true]; exact ⟨l, (t.1, t.2.1, q), rfl, h1, rfl⟩
          · intro x hx
            rcases List.mem_append.1 hx with hx | hx
            · exact .inl (by simp [hx])
            · simp at hx; subst hx; exact .inr h1
    obtain ⟨s1, s2, s3, s4, s5⟩ := hstep
    obtain ⟨i1, i2, i3, i4⟩ := rowF_ok f e (ends := q :: r) (opn := f p) hc.2 hsm' s1 s3
    rw [show rowF f e (p :: q :: r) opn out = rowF f e (q :: r) (f p) (rowStep f e p q opn out) from rfl]
    refine ⟨i1, fun e' a => ?_, fun t ht => ?_, by simp only [List.length_cons] at i4 ⊢; omega⟩
    · rw [i2, s2, Bool.or_assoc, ← Bool.and_or_distrib_left]
      rfl
    · rcases i3 t ht with h' | h'
      · exact s4 t h'
      · exact .inr h'
/-- the rows of all edges -/
def formF (g : Int → Int → Bool) (ends : List Int) : List Int → List Sp → List Sp
  | [], out => out
  | e :: E, out => formF g ends E (rowF (g e) e ends false out)
theorem formF_ok (g : Int → Int → Bool) {ends : List Int} (hr : ends.Pairwise (· < ·)) (hsm : ∀ e, ∀ p ∈ ends, ∀ q ∈ ends, p < q → g e p = true → (∀ x ∈ ends, ¬ (p < x ∧ x < q)) → someS (e, p, q) = true) : ∀ {E : List Int} {out : List Sp}, E.Pairwise (· < ·) → NormalS out → (∀ t ∈ out, ∀ e ∈ E, t.1 < e) →
    NormalS (formF g ends E out) ∧ (∀ e a, hasL (formF g ends E out) e a = (hasL out e a || (decide (e ∈ E) && betw (g e) a ends))) ∧ (formF g ends E out).length ≤ out.length + E.length * ends.length
  | [], out, _, h, _ => ⟨h, fun e a => by simp [formF], by simp [formF]⟩
  | e0 :: E, out, hE, h, ha => by
    have hc := List.pairwise_cons.1 hE
    obtain ⟨r1, r2, r3, r4⟩ := rowF_ok (g e0) e0 (opn := false) hr (hsm e0) h (by
      split
      · unfold ahead; simp only [Bool.false_eq_true, if_false]; intro t ht; exact .inl (ha t ht e0 (by simp))
      · trivial)
    obtain ⟨i1, i2, i3⟩ := formF_ok g hr hsm (E := E) hc.2 r1 (fun t ht e he => by
      have := hc.1 e he
      rcases r3 t ht with h' | h'
      · exact ha t h' e (by simp [he])
      · omega)
    refine ⟨i1, fun e a => ?_, by rw [List.length_cons, Nat.succ_mul]; show (formF g ends E _).length ≤ _; omega⟩
    show hasL (formF g ends E _) e a = _
    rw [i2, r2, Bool.or_assoc]
    congr 1
    by_cases he : e = e0
    · subst he
      have : decide (e ∈ E) = false := by rw [decide_eq_false_iff_not]; intro hm; have := hc.1 e hm; omega
      simp [this]
    · simp [he]
def wantB (k : Bool × Bool × Bool) (a b : Bool) : Bool := (k.1 && a && !b) || (k.2.1 && b && !a) || (k.2.2 && a && b)
/-- the document's Form -/
def FormM (a b : List Sp) (k : Bool × Bool × Bool) : List Sp := formF (fun e p => wantB k (hasL a e p) (hasL b e p)) (endsM (a ++ b)) (edgesM (a ++ b)) []
/-- between two neighbours of all ends a list has all, or nothing -/
theorem hasL_alike {l : List Sp} {e p q : Int} (hx : ∀ s ∈ l, (s.2.1 ≤ p ∨ q ≤ s.2.1) ∧ (s.2.2 ≤ p ∨ q ≤ s.2.2)) {a : Int} (h1 : p ≤ a) (h2 : a < q) : hasL l e a = hasL l e p := by
  apply bool_ext
  rw [hasL_iff, hasL_iff]
  constructor
  · rintro ⟨s, hs, h3, h4, h5, h6⟩; have := hx s hs; exact ⟨s, hs, h3, h4, by omega, by omega⟩
  · rintro ⟨s, hs, h3, h4, h5, h6⟩; have := hx s hs; exact ⟨s, hs, h3, h4, by omega, by omega⟩
theorem betw_iff {f : Int → Bool} {a : Int} : ∀ {l : List Int}, l.Pairwise (· < ·) → (betw f a l = true ↔ ∃ p ∈ l, ∃ q ∈ l, p < q ∧ (∀ x ∈ l, ¬ (p < x ∧ x < q)) ∧ f p = true ∧ p ≤ a ∧ a < q)
  | [], _ => by simp [betw]
  | [p], _ => by simp [betw]
  | p :: q :: r, h => by
    have hc := List.pairwise_cons.1 h
    rw [betw, Bool.or_eq_true, betw_iff hc.2, Bool.and_eq_true, Bool.and_eq_true, decide_eq_true_eq, decide_eq_true_eq]
    have hpq := hc.1 q (by simp)
    constructor
    · rintro (⟨⟨h1, h2⟩, h3⟩ | ⟨p', hp', q', hq', h1, h2, h3⟩)
      · refine ⟨p, by simp, q, by simp, hpq, fun x hx => ?_, h1, h2, h3⟩
        rcases List.mem_cons.1 hx with rfl | hx
        · omega
        · rcases List.mem_cons.1 hx with rfl | hx
          · omega
          · have := (List.pairwise_cons.1 hc.2).1 x hx; omega
      · refine ⟨p', List.mem_cons_of_mem _ hp', q', List.mem_cons_of_mem _ hq', h1, fun x hx => ?_, h3⟩
        rcases List.mem_cons.1 hx with rfl | hx
        · have := hc.1 p' hp'; omega
        · exact h2 x hx
    · rintro ⟨p', hp', q', hq', h1, h2, h3, h4, h5⟩
      rcases List.mem_cons.1 hp' with rfl | hp'
      · left
        have hq : q' = q := by
          rcases List.mem_cons.1 hq' with rfl | hq'
          · omega
          · rcases List.mem_cons.1 hq' with rfl | hq'
            · rfl
            · have := h2 q (by simp); have := (List.pairwise_cons.1 hc.2).1 q' hq'; omega
        subst hq
        exact ⟨⟨h3, h4⟩, h5⟩
      · right
        have hq'' : q' ∈ q :: r := by
          rcases List.mem_cons.1 hq' with h' | h'
          · have := hc.1 p' hp'; omega
          · exact h'
        exact ⟨p', hp', q', hq'', h1, fun x hx => h2 x (List.mem_cons_of_mem _ hx), h3, h4, h5⟩
/-- neighbours of a place between two of the list's -/
theorem neighbours : ∀ {l : List Int} {a lo hi : Int}, l.Pairwise (· < ·) → lo ∈ l → hi ∈ l → lo ≤ a → a < hi → ∃ p ∈ l, ∃ q ∈ l, p < q ∧ (∀ x ∈ l, ¬ (p < x ∧ x < q)) ∧ p ≤ a ∧ a < q
  | [], a, lo, hi, _, h, _, _, _ => by cases h
  | [p], a, lo, hi, _, h1, h2, h3, h4 => by simp at h1 h2; omega
  | p :: q :: r, a, lo, hi, h, h1, h2, h3, h4 => by
    have hc := List.pairwise_cons.1 h
    have hpq := hc.1 q (by simp)
    have hhi : hi ∈ q :: r ∨ hi = p := by rcases List.mem_cons.1 h2 with h2 | h2; exact .inr h2; exact .inl h2
    have hlo : p ≤ lo := by
      rcases List.mem_cons.1 h1 with rfl | h1
      · omega
      · have := hc.1 lo h1; omega
    by_cases hq : a < q
    · refine ⟨p, by simp, q, by simp, hpq, fun x hx => ?_, by omega, hq⟩
      rcases List.mem_cons.1 hx with rfl | hx
      · omega
      · rcases List.mem_cons.1 hx with rfl | hx
        · omega
        · have := (List.pairwise_cons.1 hc.2).1 x hx; omega
    · obtain ⟨p', hp', q', hq', r1, r2, r3⟩ := neighbours (a := a) (lo := q) (hi := hi) hc.2 (by simp) (by rcases hhi with h' | h'; exact h'; omega) (by omega) h4
      refine ⟨p', List.mem_cons_of_mem _ hp', q', List.mem_cons_of_mem _ hq', r1, fun x hx => ?_, r3⟩
      rcases List.mem_cons.1 hx with rfl | hx
      · have := hc.1 p' hp'; omega
      · exact r2 x hx
theorem FormM_ok (a b : List Sp) (k : Bool × Bool × Bool) : NormalS (FormM a b k) ∧ (∀ e x, hasL (FormM a b k) e x = wantB k (hasL a e x) (hasL b e x)) ∧ (FormM a b k).length ≤ (a.length + b.length) * (2 * (a.length + b.length)) := by
  obtain ⟨n1, n2, n3⟩ := ends_ok (a ++ b) [] List.Pairwise.nil
  obtain ⟨d1, d2, d3⟩ := edges_ok (a ++ b) [] List.Pairwise.nil
  have n1 : (endsM (a ++ b)).Pairwise (· < ·) := n1
  have hwf : wantB k false false = false := by unfold wantB; simp
  have hend : ∀ s, s ∈ a ∨ s ∈ b → s.2.1 ∈ endsM (a ++ b) ∧ s.2.2 ∈ endsM (a ++ b) := fun s hs => ⟨(n2 _).2 (.inr ⟨s, List.mem_append.2 hs, .inl rfl⟩), (n2 _).2 (.inr ⟨s, List.mem_append.2 hs, .inr rfl⟩)⟩
  have hedge : ∀ s, s ∈ a ∨ s ∈ b → s.1 ∈ edgesM (a ++ b) := fun s hs => (d2 _).2 (.inr ⟨s, List.mem_append.2 hs, rfl⟩)
  have hgap : ∀ l : List Sp, (∀ s ∈ l, s ∈ a ∨ s ∈ b) → ∀ p q : Int, (∀ x ∈ endsM (a ++ b), ¬ (p < x ∧ x < q)) → ∀ s ∈ l, (s.2.1 ≤ p ∨ q ≤ s.2.1) ∧ (s.2.2 ≤ p ∨ q ≤ s.2.2) := by
    intro l hl p q hx s hs
    obtain ⟨h1, h2⟩ := hend s (hl s hs)
    have := hx _ h1
    have := hx _ h2
    omega
  have hsm : ∀ e, ∀ p ∈ endsM (a ++ b), ∀ q ∈ endsM (a ++ b), p < q → wantB k (hasL a e p) (hasL b e p) = true → (∀ x ∈ endsM (a ++ b), ¬ (p < x ∧ x < q)) → someS (e, p, q) = true := by
    intro e p _ q _ hpq hw hx
    have hor : hasL a e p = true ∨ hasL b e p = true := by
      cases h1 : hasL a e p
      · cases h2 : hasL b e p
        · rw [h1, h2, hwf] at hw; cases hw
        · simp
      · simp
    have : ∃ s, (s ∈ a ∨ s ∈ b) ∧ someS s = true ∧ s.1 = e ∧ s.2.1 ≤ p ∧ p < s.2.2 := by
      rcases hor with h | h
      · obtain ⟨s, hs, r⟩ := hasL_iff.1 h; exact ⟨s, .inl hs, r⟩
      · obtain ⟨s, hs, r⟩ := hasL_iff.1 h; exact ⟨s, .inr hs, r⟩
    obtain ⟨s, hs, h1, h2, h3, h4⟩ := this
    have h5 := someS_iff.1 h1
    have h6 := hx _ (hend s hs).2
    rw [someS_iff]; simp only; omega
  obtain ⟨r1, r2, r3⟩ := formF_ok (fun e p => wantB k (hasL a e p) (hasL b e p)) (ends := endsM (a ++ b)) n1 hsm (E := edgesM (a ++ b)) d1 NormalS.nil (by simp)
  refine ⟨r1, fun e x => ?_, ?_⟩
  · unfold FormM
    rw [r2, hasL_nil, Bool.false_or]
    apply bool_ext
    rw [Bool.and_eq_true, decide_eq_true_eq, betw_iff n1]
    constructor
    · rintro ⟨_, p, _, q, _, _, hx, hw, h1, h2⟩
      rw [hasL_alike (hgap a (fun s hs => .inl hs) p q hx) h1 h2, hasL_alike (hgap b (fun s hs => .inr hs) p q hx) h1 h2]
      exact hw
    · intro hw
      have hor : hasL a e x = true ∨ hasL b e x = true := by
        cases h1 : hasL a e x
        · cases h2 : hasL b e x
          · rw [h1, h2, hwf] at hw; cases hw
          · simp
        · simp
      have : ∃ s, (s ∈ a ∨ s ∈ b) ∧ someS s = true ∧ s.1 = e ∧ s.2.1 ≤ x ∧ x < s.2.2 := by
        rcases hor with h | h
        · obtain ⟨s, hs, r⟩ := hasL_iff.1 h; exact ⟨s, .inl hs, r⟩
        · obtain ⟨s, hs, r⟩ := hasL_iff.1 h; exact ⟨s, .inr hs, r⟩
      obtain ⟨s, hs, _, h2, h3, h4⟩ := this
      obtain ⟨p, hp, q, hq, g1, g2, g3, g4⟩ := neighbours n1 (hend s hs).1 (hend s hs).2 h3 h4
      refine ⟨h2 ▸ hedge s hs, p, hp, q, hq, g1, g2, ?_, g3, g4⟩
      rw [← hasL_alike (hgap a (fun s hs => .inl hs) p q g2) g3 g4, ← hasL_alike (hgap b (fun s hs => .inr hs) p q g2) g3 g4]
      exact hw
  · unfold FormM
    refine Nat.le_trans r3 ?_
    have h1 : (edgesM (a ++ b)).length ≤ a.length + b.length := by have := d3; simp only [List.length_append, List.length_nil] at this; unfold edgesM; omega
    have h2 : (endsM (a ++ b)).length ≤ 2 * (a.length + b.length) := by have := n3; simp only [List.length_append, List.length_nil] at this; unfold endsM; omega
    simp only [List.length_nil, Nat.zero_add]
    exact Nat.mul_le_mul h1 h2

end Go.Proofs.YtpahfobijmmmmaaGreat
