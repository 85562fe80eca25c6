/- Chapter 18 (grant): copies of entries and of ledgers. -/
import Derived.Test.YtlcbajdckgcopaaGrB
import Derived.Deep.RegionLawGrows
namespace Go.Proofs.Ytlcbajdckgcopaa
open Go.RowKit

set_option maxRecDepth 100000 in
theorem elemE : Elem Try.prog 50 77 4 48 := ⟨Try.underlying50, _, _, rfl, rfl, rfl, rfl, rfl, by omega⟩
theorem SpAt.far {S : Nat → Prop} {w w' : World} {B n c : Nat} {A : Option Addr} {l : List Sp} (h : SpAt w B A n c l) (hk : Keep S w w') (hS : ∀ ad, A = some ad → 0 < n → ¬ S ad.block) : SpAt w' B A n c l := ⟨h.rd.keep_far hk hS, h.nil, h.cap⟩
theorem SpAt.here0 {w : World} {B n c : Nat} {A : Option Addr} {l : List Sp} (h : SpAt w B A n c l) : SpAt w w.heap.size A n c l := ⟨h.rd.at_heap (by decide), h.nil, h.cap⟩
/-- a slice whose row is old, or one of spans -/
def Good (N : Nat) (w : World) (A : Option Addr) (n : Nat) : Prop := ∀ ad, A = some ad → 0 < n → ad.block < N ∨ ∃ cs, Blk w ad.block 109 cs
/-- stores into these turn no such slice -/
def Far (N : Nat) (w : World) (S : Nat → Prop) : Prop := ∀ q, S q → N ≤ q ∧ ∀ cs, ¬ Blk w q 109 cs
theorem Good.keep {N n : Nat} {S : Nat → Prop} {w w' : World} {A : Option Addr} (h : Good N w A n) (hk : Keep S w w') (hS : Far N w S) : Good N w' A n := fun ad hA hn => by
  rcases h ad hA hn with h | ⟨cs, h⟩
  · exact .inl h
  · exact .inr ⟨cs, h.keep hk (fun hs => (hS _ hs).2 cs h)⟩
theorem Good.off {N n : Nat} {S : Nat → Prop} {w : World} {A : Option Addr} (h : Good N w A n) (hS : Far N w S) : ∀ ad, A = some ad → 0 < n → ¬ S ad.block := fun ad hA hn hs => by
  rcases h ad hA hn with h | ⟨cs, h⟩
  · have := (hS _ hs).1; omega
  · exact (hS _ hs).2 cs h
theorem Good.old {N B n c : Nat} {w : World} {A : Option Addr} {l : List Sp} (h : SpAt w B A n c l) (hB : B ≤ N) : Good N w A n := fun ad hA hn => by
  obtain ⟨ad', e, hb, _⟩ := h.rd.2 hn
  rw [hA] at e
  injection e with e
  subst e
  exact .inl (by omega)
theorem Good.own {N base n c m : Nat} {w : World} {A : Option Addr} {xs : List Value} (h : Own w base 109 3 A n c xs) : Good N w A m := fun ad hA _ => by
  rcases h.form with ⟨h1, _⟩ | ⟨g', cur, h1, _, hb, _⟩
  · rw [hA] at h1; cases h1
  · rw [hA] at h1; injection h1 with h1; subst h1; exact .inr ⟨_, hb⟩
theorem Far.own {N base e size n c : Nat} {w : World} {A : Option Addr} {xs : List Value} (h : Own w base e size A n c xs) (he : e ≠ 109) (hN : N ≤ base) : Far N w (InRow A) := fun q hq =>
  ⟨Nat.le_trans hN (h.row hq).1, fun _ hb => h.ne_blk hb he q hq rfl⟩
theorem Far.blk {N g t : Nat} {w : World} {cs : Array Value} (h : Blk w g t cs) (ht : t ≠ 109) (hN : N ≤ g) : Far N w (fun q => q = g) := fun q hq => by
  subst hq
  exact ⟨hN, fun _ hb => Blk.ne_ h hb ht rfl⟩
theorem Far.or {N : Nat} {w : World} {S T : Nat → Prop} (h : Far N w S) (h' : Far N w T) : Far N w (fun q => S q ∨ T q) := fun q hq => hq.elim (h q) (h' q)
theorem Far.none (N : Nat) (w : World) : Far N w Never := fun _ h => h.elim
/-- an entry's cells; what they lead to is old, or a row of spans -/
def EG (N : Nat) (w : World) (e : Ent) (cs : List Value) : Prop := ∃ A n c, cs = [.int .i64 e.1, .int .i64 e.2.1, .slice A n c, .bool e.2.2.2] ∧ SpAt w w.heap.size A n c e.2.2.1 ∧ Good N w A n
theorem EG.keep {N : Nat} {S : Nat → Prop} {w w' : World} {e : Ent} {cs : List Value} (h : EG N w e cs) (hk : Keep S w w') (hS : Far N w S) : EG N w' e cs := by
  obtain ⟨A, n, c, rfl, h1, h2⟩ := h
  exact ⟨A, n, c, rfl, (h1.far hk (h2.off hS)).more hk.size, h2.keep hk hS⟩
theorem EG.old {N B : Nat} {w : World} {e : Ent} {cs : List Value} (h : repE.cells w B e cs) (hB : B ≤ N) : EG N w e cs := by
  obtain ⟨A, n, c, rfl, h1⟩ := h
  exact ⟨A, n, c, rfl, h1.here0, Good.old h1 hB⟩
theorem EG.cells {N : Nat} {w : World} {e : Ent} {cs : List Value} (h : EG N w e cs) : repE.cells w w.heap.size e cs := by
  obtain ⟨A, n, c, rfl, h1, h2⟩ := h
  exact ⟨A, n, c, rfl, h1⟩
theorem EG.len {N : Nat} {w : World} {e : Ent} {cs : List Value} (h : EG N w e cs) : cs.length = 4 := by
  obtain ⟨A, n, c, rfl, _⟩ := h; rfl
theorem EG.ofSp {N : Nat} {w : World} {A : Option Addr} {n c : Nat} {e : Ent} (h1 : SpAt w w.heap.size A n c e.2.2.1) (h2 : Good N w A n) : EG N w e [.int .i64 e.1, .int .i64 e.2.1, .slice A n c, .bool e.2.2.2] := ⟨A, n, c, rfl, h1, h2⟩
def fourL (css : List (List Value)) : Prop := ∀ cs ∈ css, cs.length = 4
theorem egs_fourL {N : Nat} {w : World} : ∀ {l : List Ent} {css : List (List Value)}, All2 (EG N w) l css → fourL css
  | [], [], _ => by intro cs h; simp at h
  | [], _ :: _, h => h.elim
  | _ :: _, [], h => h.elim
  | _ :: l, c :: css, h => by
    intro cs hc
    rcases List.mem_cons.1 hc with rfl | hc
    · exact h.1.len
    · exact egs_fourL h.2 cs hc
theorem fourL_len : ∀ {css : List (List Value)}, fourL css → css.flatten.length = css.length * 4
  | [], _ => rfl
  | c :: css, h => by
    rw [List.flatten_cons, List.length_append, h c (by simp), fourL_len (fun x hx => h x (by simp [hx])), List.length_cons]; omega
theorem fourL_at : ∀ {css : List (List Value)} {i j : Nat} {cs : List Value}, fourL css → css[i]? = some cs → j < 4 → css.flatten[i * 4 + j]? = cs[j]?
  | [], i, j, cs, _, hi, _ => by simp at hi
  | c :: css, 0, j, cs, h, hi, hj => by
    simp only [List.getElem?_cons_zero, Option.some.injEq] at hi
    subst hi
    rw [List.flatten_cons, List.getElem?_append_left (by rw [h c (by simp)]; omega), Nat.zero_mul, Nat.zero_add]
  | c :: css, i + 1, j, cs, h, hi, hj => by
    have hc := h c (by simp)
    rw [List.getElem?_cons_succ] at hi
    rw [List.flatten_cons, List.getElem?_append_right (by rw [hc]; omega), hc, show (i + 1) * 4 + j - 4 = i * 4 + j by omega]
    exact fourL_at (fun x hx => h x (by simp [hx])) hi hj
theorem fourL_set : ∀ {css : List (List Value)} {i j : Nat} {cs : List Value} (v : Value), fourL css → css[i]? = some cs → j < 4 → css.flatten.set (i * 4 + j) v = (css.set i (cs.set j v)).flatten
  | [], i, j, cs, v, _, hi, _ => by simp at hi
  | c :: css, 0, j, cs, v, h, hi, hj => by
    simp only [List.getElem?_cons_zero, Option.some.injEq] at hi
    subst hi
    rw [List.flatten_cons, List.set_append, if_pos (by rw [h c (by simp)]; omega), Nat.zero_mul, Nat.zero_add]; rfl
  | c :: css, i + 1, j, cs, v, h, hi, hj => by
    have hc := h c (by simp)
    rw [List.getElem?_cons_succ] at hi
    rw [List.flatten_cons, List.set_append, if_neg (by rw [hc]; omega), hc, show (i + 1) * 4 + j - 4 = i * 4 + j by omega, fourL_set v (fun x hx => h x (by simp [hx])) hi hj]; rfl
theorem all2_set {α β : Type} {R : α → β → Prop} : ∀ {l : List α} {m : List β} {i : Nat} {a : α} {b : β}, All2 R l m → l[i]? = some a → R a b → All2 R l (m.set i b)
  | [], [], _, _, _, _, h, _ => by simp at h
  | [], _ :: _, _, _, _, h, _, _ => h.elim
  | _ :: _, [], _, _, _, h, _, _ => h.elim
  | x :: l, y :: m, 0, a, b, h, hi, hr => by
    simp only [List.getElem?_cons_zero, Option.some.injEq] at hi
    subst hi; exact ⟨hr, h.2⟩
  | x :: l, y :: m, i + 1, a, b, h, hi, hr => ⟨h.1, all2_set h.2 (by simpa using hi) hr⟩
theorem all2_len {α β : Type} {R : α → β → Prop} : ∀ {l : List α} {m : List β}, All2 R l m → l.length = m.length
  | [], [], _ => rfl
  | [], _ :: _, h => h.elim
  | _ :: _, [], h => h.elim
  | _ :: l, _ :: m, h => by simp [all2_len h.2]
theorem ents_own {N base n c : Nat} {w : World} {A : Option Addr} {l : List Ent} {css : List (List Value)} (h : Own w base 77 4 A n c css.flatten) (ha : All2 (EG N w) l css) : repE.Sl w w.heap.size A n c l := by
  have hl : n = l.length := by
    have h1 := h.len; have h2 := fourL_len (egs_fourL ha); have h3 := all2_len ha; omega
  exact Rep.Sl.of_own (r := repE) h (ha.imp fun _ _ h => h.cells) hl (Nat.le_refl _)
theorem egs_keep {N : Nat} {S : Nat → Prop} {w w' : World} {l : List Ent} {css : List (List Value)} (h : All2 (EG N w) l css) (hk : Keep S w w') (hS : Far N w S) : All2 (EG N w') l css := h.imp fun _ _ h => h.keep hk hS
/-- entry i, in an own row -/
theorem ent_own {N base n c i : Nat} {w : World} {A : Option Addr} {l : List Ent} {css : List (List Value)} (h : Own w base 77 4 A n c css.flatten) (ha : All2 (EG N w) l css) (hi : i < n) :
    ∃ ad e A2 n2 c2, A = some ad ∧ l[i]? = some e ∧ css[i]? = some [.int .i64 e.1, .int .i64 e.2.1, .slice A2 n2 c2, .bool e.2.2.2] ∧ SpAt w w.heap.size A2 n2 c2 e.2.2.1 ∧ Good N w A2 n2 ∧ w.cell? (ad.add (i * 4)) = some (.int .i64 e.1) ∧
      w.cell? ⟨(ad.add (i * 4)).block, (ad.add (i * 4)).off + 1, none⟩ = some (.int .i64 e.2.1) ∧ w.cell? ⟨(ad.add (i * 4)).block, (ad.add (i * 4)).off + 2, none⟩ = some (.slice A2 n2 c2) ∧ w.cell? ⟨(ad.add (i * 4)).block, (ad.add (i * 4)).off + 3, none⟩ = some (.bool e.2.2.2) ∧ w.frozen? ⟨(ad.add (i * 4)).block, (ad.add (i * 4)).off + 2, none⟩ = false := by
  have h4 := egs_fourL ha
  have hl : n = l.length := by
    have h1 := h.len; have h2 := fourL_len h4; have h3 := all2_len ha; omega
  obtain ⟨cs, hcs, A2, n2, c2, rfl, hsp, hg⟩ := ha.at_ (List.getElem?_eq_getElem (show i < l.length by omega))
  obtain ⟨ad, hA, _, hat⟩ := h.rd.at_ hi
  have hc : ∀ (j : Nat) (u : Value), j < 4 → [Value.int .i64 l[i].1, .int .i64 l[i].2.1, .slice A2 n2 c2, .bool l[i].2.2.2][j]? = some u → w.cell? (ad.add (i * 4 + j)) = some u := fun j u hj hu => by
    obtain ⟨v, h1, h2⟩ := hat j hj
    rw [fourL_at h4 hcs hj, hu] at h1
    rw [h2, ← h1]
  have c0 := hc 0 _ (by omega) rfl
  have c1 := hc 1 _ (by omega) rfl
  have c2' := hc 2 _ (by omega) rfl
  have c3 := hc 3 _ (by omega) rfl
  have f2 := h.frozen hA (i * 4 + 2)
  rw [fld _ _ (by omega)] at c1 c2' c3 f2
  exact ⟨ad, _, A2, n2, c2, hA, List.getElem?_eq_getElem (show i < l.length by omega), hcs, hsp, hg, c0, c1, c2', c3, f2⟩
/-- the extent of entry i is put -/
theorem ent_put {N base n c i : Nat} {ad : Addr} {w : World} {l : List Ent} {css : List (List Value)} {e : Ent} {A2 A3 : Option Addr} {n2 c2 n3 c3 : Nat} (h : Own w base 77 4 (some ad) n c css.flatten) (ha : All2 (EG N w) l css) (hN : N ≤ base)
    (hcs : css[i]? = some [.int .i64 e.1, .int .i64 e.2.1, .slice A2 n2 c2, .bool e.2.2.2]) {e' : Ent} (he : e'.1 = e.1 ∧ e'.2.1 = e.2.1 ∧ e'.2.2.2 = e.2.2.2) (hsp : SpAt w w.heap.size A3 n3 c3 e'.2.2.1) (hg : Good N w A3 n3) {l' : List Ent} (hl : l' = l.set i e') :
    ∃ css', Own (w.setCell ⟨(ad.add (i * 4)).block, (ad.add (i * 4)).off + 2, none⟩ (.slice A3 n3 c3)) base 77 4 (some ad) n c css'.flatten ∧
      All2 (EG N (w.setCell ⟨(ad.add (i * 4)).block, (ad.add (i * 4)).off + 2, none⟩ (.slice A3 n3 c3))) l' css' ∧ Keep (InRow (some ad)) w (w.setCell ⟨(ad.add (i * 4)).block, (ad.add (i * 4)).off + 2, none⟩ (.slice A3 n3 c3)) := by
  rw [← fld _ _ (show 0 < 2 by omega)]
  refine ⟨css.set i [.int .i64 e.1, .int .i64 e.2.1, .slice A3 n3 c3, .bool e.2.2.2], ?_⟩
  have h1 := h.stored rfl (i * 4 + 2) (.slice A3 n3 c3)
  have hk := h.stored_keep rfl (i * 4 + 2) (.slice A3 n3 c3)
  have hF := Far.own h (by decide) hN
  rw [fourL_set _ (egs_fourL ha) hcs (by omega)] at h1
  refine ⟨h1, ?_, hk⟩
  subst hl
  have ha' := egs_keep ha hk hF
  have hnew : EG N (w.setCell (ad.add (i * 4 + 2)) (.slice A3 n3 c3)) e' [.int .i64 e.1, .int .i64 e.2.1, .slice A3 n3 c3, .bool e.2.2.2] := by
    refine EG.keep ?_ hk hF
    exact ⟨A3, n3, c3, by rw [he.1, he.2.1, he.2.2], hsp, hg⟩
  clear hk hF h1 hsp hg ha h
  generalize (w.setCell (ad.add (i * 4 + 2)) (.slice A3 n3 c3)) = w' at *
  generalize [Value.int .i64 e.1, .int .i64 e.2.1, .slice A3 n3 c3, .bool e.2.2.2] = d at *
  clear hcs
  induction l generalizing css i with
  | nil => cases css with
    | nil => exact trivial
    | cons b m => exact ha'.elim
  | cons a l ih => cases css with
    | nil => exact ha'.elim
    | cons b m => cases i with
      | zero => exact ⟨hnew, ha'.2⟩
      | succ i => exact ⟨ha'.1, ih ha'.2⟩
/-- a row that is old, or one of entries -/
def GoodE (N : Nat) (w : World) (A : Option Addr) (n : Nat) : Prop := ∀ ad, A = some ad → 0 < n → ad.block < N ∨ ∃ cs, Blk w ad.block 77 cs
/-- stores into these turn nothing of a ledger -/
def Far2 (N : Nat) (w : World) (S : Nat → Prop) : Prop := ∀ q, S q → N ≤ q ∧ (∀ cs, ¬ Blk w q 109 cs) ∧ ∀ cs, ¬ Blk w q 77 cs
theorem Far2.far {N : Nat} {w : World} {S : Nat → Prop} (h : Far2 N w S) : Far N w S := fun q hq => ⟨(h q hq).1, (h q hq).2.1⟩
theorem Far2.blk {N g t : Nat} {w : World} {cs : Array Value} (h : Blk w g t cs) (ht : t ≠ 109) (ht' : t ≠ 77) (hN : N ≤ g) : Far2 N w (fun q => q = g) := fun q hq => by
  subst hq
  exact ⟨hN, fun _ hb => Blk.ne_ h hb ht rfl, fun _ hb => Blk.ne_ h hb ht' rfl⟩
theorem Far2.none (N : Nat) (w : World) : Far2 N w Never := fun _ h => h.elim
theorem Far2.own {N base e size n c : Nat} {w : World} {A : Option Addr} {xs : List Value} (h : Own w base e size A n c xs) (he : e ≠ 109) (he' : e ≠ 77) (hN : N ≤ base) : Far2 N w (InRow A) := fun q hq =>
  ⟨Nat.le_trans hN (h.row hq).1, fun _ hb => h.ne_blk hb he q hq rfl, fun _ hb => h.ne_blk hb he' q hq rfl⟩
/-- spans in memory, their row old or of spans -/
structure SpG (N : Nat) (w : World) (A : Option Addr) (n c : Nat) (l : List Sp) : Prop where
  at_ : SpAt w w.heap.size A n c l
  g : Good N w A n
/-- entries in memory, their row old or of entries -/
structure EsG (N : Nat) (w : World) (A : Option Addr) (n c : Nat) (l : List Ent) : Prop where
  row : ∃ css, Rd w w.heap.size 4 A n css.flatten ∧ All2 (EG N w) l css
  len : n = l.length
  cap : n ≤ c
  max : c ≤ maxLen
  nil : A = none → c = 0
  g : GoodE N w A n
/-- a ledger in memory -/
structure LdG (N : Nat) (w : World) (x : LA) (l : Ldg) : Prop where
  e : EsG N w x.A x.n x.c l.1
  h : SpG N w x.A2 x.n2 x.c2 l.2.1
  k : x.k = l.2.2
theorem SpG.keep {N n c : Nat} {S : Nat → Prop} {w w' : World} {A : Option Addr} {l : List Sp} (h : SpG N w A n c l) (hk : Keep S w w') (hS : Far N w S) : SpG N w' A n c l := ⟨(h.at_.far hk (h.g.off hS)).more hk.size, h.g.keep hk hS⟩
theorem SpG.never {N n c : Nat} {w w' : World} {A : Option Addr} {l : List Sp} (h : SpG N w A n c l) (hk : Keep Never w w') : SpG N w' A n c l := h.keep hk (Far.none _ _)
theorem SpG.own {N base n c : Nat} {w : World} {A : Option Addr} {l : List Sp} (h : Own w base 109 3 A n c (spCells l)) : SpG N w A n c l := ⟨SpAt.of_own h, Good.own h⟩
theorem SpG.old {N B n c : Nat} {w : World} {A : Option Addr} {l : List Sp} (h : SpAt w B A n c l) (hB : B ≤ N) : SpG N w A n c l := ⟨h.here0, Good.old h hB⟩
theorem SpG.nil (N : Nat) (w : World) : SpG N w none 0 0 [] := ⟨⟨Rd.nil _ _ _ _, fun _ => rfl, Nat.le_refl _⟩, fun _ h => by cases h⟩
theorem GoodE.off {N n : Nat} {S : Nat → Prop} {w : World} {A : Option Addr} (h : GoodE N w A n) (hS : Far2 N w S) : ∀ ad, A = some ad → 0 < n → ¬ S ad.block := fun ad hA hn hs => by
  rcases h ad hA hn with h | ⟨cs, h⟩
  · have := (hS _ hs).1; omega
  · exact (hS _ hs).2.2 cs h
theorem EsG.keep {N n c : Nat} {S : Nat → Prop} {w w' : World} {A : Option Addr} {l : List Ent} (h : EsG N w A n c l) (hk : Keep S w w') (hS : Far2 N w S) : EsG N w' A n c l := by
  obtain ⟨⟨css, h1, h2⟩, h3, h4, h5, h6, h7⟩ := h
  refine ⟨⟨css, (h1.keep_far hk (h7.off hS)).more hk.size, egs_keep h2 hk hS.far⟩, h3, h4, h5, h6, fun ad hA hn => ?_⟩
  rcases h7 ad hA hn with h | ⟨cs, h⟩
  · exact .inl h
  · exact .inr ⟨cs, h.keep hk (fun hs => (hS _ hs).2.2 cs h)⟩
theorem EsG.never {N n c : Nat} {w w' : World} {A : Option Addr} {l : List Ent} (h : EsG N w A n c l) (hk : Keep Never w w') : EsG N w' A n c l := h.keep hk (Far2.none _ _)
theorem EsG.sl {N n c : Nat} {w : World} {A : Option Addr} {l : List Ent} (h : EsG N w A n c l) : repE.Sl w w.heap.size A n c l := by
  obtain ⟨⟨css, h1, h2⟩, h3, h4, h5, h6, _⟩ := h
  exact ⟨h3, h4, h5, h6, css, h1, h2.imp fun _ _ h => h.cells⟩
theorem EsG.own {N base n c : Nat} {w : World} {A : Option Addr} {l : List Ent} {css : List (List Value)} (h : Own w base 77 4 A n c css.flatten) (ha : All2 (EG N w) l css) : EsG N w A n c l := by
  have hl : n = l.length := by
    have h1 := h.len; have h2 := fourL_len (egs_fourL ha); have h3 := all2_len ha; omega
  have hs := ents_own h ha
  refine ⟨⟨css, h.rd, ha⟩, hl, hs.2.1, hs.2.2.1, hs.2.2.2.1, fun ad hA _ => ?_⟩
  rcases h.form with ⟨h1, _⟩ | ⟨g', cur, h1, _, hb, _⟩
  · rw [hA] at h1; cases h1
  · rw [hA] at h1; injection h1 with h1; subst h1; exact .inr ⟨_, hb⟩
theorem EsG.old {N B n c : Nat} {w : World} {A : Option Addr} {l : List Ent} (h : repE.Sl w B A n c l) (hB : B ≤ N) : EsG N w A n c l := by
  obtain ⟨h1, h2, h3, h4, css, h5, h6⟩ := h
  refine ⟨⟨css, h5.at_heap (by decide), h6.imp fun _ _ h => EG.old h hB⟩, h1, h2, h3, h4, fun ad hA hn => ?_⟩
  obtain ⟨ad', e, hb, _⟩ := h5.2 hn
  rw [hA] at e
  injection e with e
  subst e
  exact .inl (by omega)
theorem EsG.nil_ (N : Nat) (w : World) : EsG N w none 0 0 [] := ⟨⟨[], Rd.nil _ _ _ _, trivial⟩, rfl, Nat.le_refl _, by unfold maxLen; omega, fun _ => rfl, fun _ h => by cases h⟩
theorem LdG.keep {N : Nat} {S : Nat → Prop} {w w' : World} {x : LA} {l : Ldg} (h : LdG N w x l) (hk : Keep S w w') (hS : Far2 N w S) : LdG N w' x l := ⟨h.e.keep hk hS, h.h.keep hk hS.far, h.k⟩
theorem LdG.never {N : Nat} {w w' : World} {x : LA} {l : Ldg} (h : LdG N w x l) (hk : Keep Never w w') : LdG N w' x l := h.keep hk (Far2.none _ _)
theorem LdG.ld {N : Nat} {w : World} {x : LA} {l : Ldg} (h : LdG N w x l) : LdAt w w.heap.size x l := ⟨h.e.sl, h.h.at_, h.k⟩
theorem LdG.old {N B : Nat} {w : World} {x : LA} {l : Ldg} (h : LdAt w B x l) (hB : B ≤ N) : LdG N w x l := ⟨EsG.old h.e hB, SpG.old h.h hB, h.k⟩
theorem LdG.no (N : Nat) (w : World) : LdG N w ⟨none, 0, 0, none, 0, 0, false⟩ noL := ⟨EsG.nil_ N w, SpG.nil N w, rfl⟩
/-- entry i, and its cells -/
theorem ent_g {N n c i : Nat} {w : World} {A : Option Addr} {l : List Ent} (h : EsG N w A n c l) (hi : i < n) : ∃ ad e A2 n2 c2, A = some ad ∧ l[i]? = some e ∧ w.cell? (ad.add (i * 4)) = some (.int .i64 e.1) ∧ w.cell? ⟨(ad.add (i * 4)).block, (ad.add (i * 4)).off + 1, none⟩ = some (.int .i64 e.2.1) ∧
    w.cell? ⟨(ad.add (i * 4)).block, (ad.add (i * 4)).off + 2, none⟩ = some (.slice A2 n2 c2) ∧ w.cell? ⟨(ad.add (i * 4)).block, (ad.add (i * 4)).off + 3, none⟩ = some (.bool e.2.2.2) ∧ SpG N w A2 n2 c2 e.2.2.1 := by
  obtain ⟨⟨css, h1, h2⟩, h3, _⟩ := h
  have h4 := egs_fourL h2
  obtain ⟨cs, hcs, A2, n2, c2, rfl, hsp, hg⟩ := h2.at_ (List.getElem?_eq_getElem (show i < l.length by omega))
  obtain ⟨ad, hA, _, hat⟩ := h1.at_ hi
  have hc : ∀ (j : Nat) (u : Value), j < 4 → [Value.int .i64 l[i].1, .int .i64 l[i].2.1, .slice A2 n2 c2, .bool l[i].2.2.2][j]? = some u → w.cell? (ad.add (i * 4 + j)) = some u := fun j u hj hu => by
    obtain ⟨v, h1, h2⟩ := hat j hj
    rw [fourL_at h4 hcs hj, hu] at h1
    rw [h2, ← h1]
  have c0 := hc 0 _ (by omega) rfl
  have c1 := hc 1 _ (by omega) rfl
  have c2' := hc 2 _ (by omega) rfl
  have c3 := hc 3 _ (by omega) rfl
  rw [fld _ _ (by omega)] at c1 c2' c3
  exact ⟨ad, _, A2, n2, c2, hA, List.getElem?_eq_getElem (show i < l.length by omega), c0, c1, c2', c3, hsp, hg⟩
/-- a row's cells, all of them plain -/
theorem ents_one {w : World} {B : Nat} {l : List Ent} {css : List (List Value)} (h : All2 (repE.cells w B) l css) : ∀ u ∈ css.flatten, u.oneCell' = true := by
  induction l generalizing css with
  | nil => cases css with
    | nil => simp
    | cons b m => exact h.elim
  | cons a l ih => cases css with
    | nil => exact h.elim
    | cons b m =>
      intro u hu
      rw [List.flatten_cons, List.mem_append] at hu
      rcases hu with hu | hu
      · exact repE.one h.1 u hu
      · exact ih h.2 u hu

set_option maxHeartbeats 1000000 in
set_option maxRecDepth 100000 in
theorem cloneE_any (A : Option Addr) (n c B : Nat) (xs : List Value) (w : World) (hr : Rd w B 4 A n xs) (h1x : ∀ u ∈ xs, u.oneCell' = true) (hA : A = none → c = 0) (hnc : n ≤ c) (hn : n ≤ 100000000000) (hB : B ≤ w.heap.size) :
    Calls Try.prog 130 #[.slice A n c] w fun e w' => ∃ A' c', e = .returned (.slice A' n c') ∧ Own w' w.heap.size 77 4 A' n c' xs ∧ Keep Never w w' := by
  have HR := Lib.hid hr
  have HL : Hid (xs.length = n * 4) := Lib.hid hr.1
  clear hr
  have q22 : ∀ (w : World) (a : Option Addr) (n c n' c' : Nat), (binOp .eql 50 (.slice a n c) (.slice none n' c')).run Try.prog w = .ok (.bool a.isNone) w := fun w a n c n' c' => Lib.run_eql_slice_nil w _ _ a n c n' c' Try.underlying50
  cases A with
  | none =>
    obtain rfl := hA rfl
    obtain rfl : n = 0 := by omega
    have hl : xs = [] := List.eq_nil_of_length_eq_zero (by have := HL.out; omega)
    subst hl
    clear hA
    go_enter Try.func130, Try.ntmps130
    go_wp2_with fail
    go_ret
    exact ⟨none, 0, rfl, Own.nil _ _ _ _, Keep.refl _ _⟩
  | some ad =>
    clear hA
    have HO : Hid (Own (w.alloc (.cells #[] 77)) w.heap.size 77 4 (some ⟨w.heap.size, 0, none⟩) 0 0 []) := Lib.hid (by
      have h := Own.lit w 77 #[] 0 4 (by unfold maxLen; omega) rfl
      simpa using h)
    have HK : Hid (Keep Never w (w.alloc (.cells #[] 77))) := Lib.hid ((Keep.refl Never w).alloc _)
    have HR1 := Lib.hid (HR.out.keep HK.out (fun _ h => h.elim))
    have hsz : w.heap.size ≤ (w.alloc (.cells #[] 77)).heap.size := by simp
    go_enter Try.func130, Try.ntmps130
    go_wp2_with (at_builtin; refine wpList_app _ rfl (.tmp 5) (.tmp 6) _ rfl elemE w.heap.size (n := 0) (c := 0) rfl HO.out B (m := n) rfl HR1.out h1x (by omega) (by unfold maxLen; omega) hsz ?_; intro A5 c5 w5 hown hk5 hrow)
    go_ret
    refine ⟨A5, c5, by simp, by simpa using hown, HK.out.then_ hk5 (fun i hi h => ?_)⟩
    have := (HO.out.row h).1
    omega

end Go.Proofs.Ytlcbajdckgcopaa
