/- How data lies in cells: integers, bools, strings, slices, structs; what comes in (the form's own reading) opened to it. -/
import Derived.Test.YtiebjnibmomcjaaDoorMem
import Derived.ProofKit
import Derived.Deep.Slices
namespace Go.Proofs.YtiebjnibmomcjaaDoor
open Go.RowKit Go.ChangeShapes Go.WideShapes

/-- a byte's cell -/
def u8v (n : Nat) : Value := .int .u8 n

def All2 {α β : Type} (R : α → β → Prop) : List α → List β → Prop
  | [], [] => True
  | a :: l, b :: m => R a b ∧ All2 R l m
  | _, _ => False

namespace All2
variable {α β : Type} {R R' : α → β → Prop} {l l' : List α} {m m' : List β}
theorem len (h : All2 R l m) : l.length = m.length := by
  induction l generalizing m with
  | nil => cases m with
    | nil => rfl
    | cons b m => exact h.elim
  | cons a l ih => cases m with
    | nil => exact h.elim
    | cons b m => simp [ih h.2]
theorem imp (h : All2 R l m) (hR : ∀ a b, R a b → R' a b) : All2 R' l m := by
  induction l generalizing m with
  | nil => cases m with
    | nil => trivial
    | cons b m => exact h.elim
  | cons a l ih => cases m with
    | nil => exact h.elim
    | cons b m => exact ⟨hR _ _ h.1, ih h.2⟩
theorem app (h : All2 R l m) (h' : All2 R l' m') : All2 R (l ++ l') (m ++ m') := by
  induction l generalizing m with
  | nil => cases m with
    | nil => exact h'
    | cons b m => exact h.elim
  | cons a l ih => cases m with
    | nil => exact h.elim
    | cons b m => exact ⟨h.1, ih h.2⟩
theorem at_ (h : All2 R l m) {i : Nat} {a : α} (hi : l[i]? = some a) : ∃ b, m[i]? = some b ∧ R a b := by
  induction l generalizing m i with
  | nil => simp at hi
  | cons x l ih => cases m with
    | nil => exact h.elim
    | cons b m => cases i with
      | zero => simp only [List.getElem?_cons_zero, Option.some.injEq] at hi; subst hi; exact ⟨b, rfl, h.1⟩
      | succ i => simp only [List.getElem?_cons_succ] at hi ⊢; exact ih h.2 hi
theorem drop_ (h : All2 R l m) (k : Nat) : All2 R (l.drop k) (m.drop k) := by
  induction k generalizing l m with
  | zero => simpa using h
  | succ k ih =>
    cases l with
    | nil => cases m with
      | nil => simpa using ih (l := []) (m := []) trivial
      | cons b m => exact h.elim
    | cons a l => cases m with
      | nil => exact h.elim
      | cons b m => simpa using ih h.2
theorem take_ (h : All2 R l m) (k : Nat) : All2 R (l.take k) (m.take k) := by
  induction k generalizing l m with
  | zero => simp only [List.take_zero]; trivial
  | succ k ih =>
    cases l with
    | nil => cases m with
      | nil => simp only [List.take_nil]; trivial
      | cons b m => exact h.elim
    | cons a l => cases m with
      | nil => exact h.elim
      | cons b m => exact ⟨h.1, ih h.2⟩
theorem of_range {n : Nat} (f : Nat → β) (g : Nat → α) (h : ∀ i, i < n → R (g i) (f i)) : All2 R ((List.range n).map g) ((List.range n).map f) := by
  induction n with
  | zero => trivial
  | succ n ih =>
    rw [List.range_succ, List.map_append, List.map_append]
    exact (ih fun i hi => h i (by omega)).app ⟨h n (by omega), trivial⟩
end All2

/-- how a value of Lean lies in 'size' cells, all it leads to below block B -/
structure Rep (α : Type) where
  size : Nat
  cells : World → Nat → α → List Value → Prop
  len : ∀ {w B a cs}, cells w B a cs → cs.length = size
  one : ∀ {w B a cs}, cells w B a cs → ∀ u ∈ cs, u.oneCell' = true
  keep_ : ∀ {w w' B a cs}, cells w B a cs → (∀ p : Addr, p.block < B → p.block < w.heap.size → w'.cell? p = w.cell? p) → cells w' B a cs
  more : ∀ {w B B' a cs}, cells w B a cs → B ≤ B' → cells w B' a cs

namespace Rep
variable {α β : Type}
theorem keep (r : Rep α) {w w' : World} {B : Nat} {a : α} {cs : List Value} {S : Nat → Prop} (h : r.cells w B a cs) (hk : Keep S w w') (hS : ∀ k, S k → B ≤ k) : r.cells w' B a cs :=
  r.keep_ h fun p h1 h2 => hk.cell h2 (fun e => by have := hS _ e; omega)

def int : Rep Int where
  size := 1
  cells _ _ n cs := cs = [.int .i64 n] ∧ -9223372036854775808 ≤ n ∧ n ≤ 9223372036854775807
  len h := by rw [h.1]; rfl
  one h u hu := by rw [h.1] at hu; simp at hu; subst hu; rfl
  keep_ h _ := h
  more h _ := h
def byte : Rep Nat where
  size := 1
  cells _ _ n cs := cs = [u8v n] ∧ n < 256
  len h := by rw [h.1]; rfl
  one h u hu := by rw [h.1] at hu; simp at hu; subst hu; rfl
  keep_ h _ := h
  more h _ := h
def bool : Rep Bool where
  size := 1
  cells _ _ b cs := cs = [.bool b]
  len h := by rw [h]; rfl
  one h u hu := by rw [h] at hu; simp at hu; subst hu; rfl
  keep_ h _ := h
  more h _ := h
def unit : Rep Unit where
  size := 0
  cells _ _ _ cs := cs = []
  len h := by rw [h]; rfl
  one h u hu := by rw [h] at hu; simp at hu
  keep_ h _ := h
  more h _ := h
def pair (r : Rep α) (s : Rep β) : Rep (α × β) where
  size := r.size + s.size
  cells w B x cs := ∃ c d, cs = c ++ d ∧ r.cells w B x.1 c ∧ s.cells w B x.2 d
  len := by rintro w B a cs ⟨c, d, rfl, h1, h2⟩; rw [List.length_append, r.len h1, s.len h2]
  one := by
    rintro w B a cs ⟨c, d, rfl, h1, h2⟩ u hu
    rcases List.mem_append.1 hu with h | h
    · exact r.one h1 u h
    · exact s.one h2 u h
  keep_ := by rintro w w' B a cs ⟨c, d, rfl, h1, h2⟩ hk; exact ⟨c, d, rfl, r.keep_ h1 hk, s.keep_ h2 hk⟩
  more := by rintro w B B' a cs ⟨c, d, rfl, h1, h2⟩ hk; exact ⟨c, d, rfl, r.more h1 hk, s.more h2 hk⟩
/-- a structure whose parts are those of r -/
def of (r : Rep β) (f : α → β) : Rep α where
  size := r.size
  cells w B a cs := r.cells w B (f a) cs
  len h := r.len h
  one h := r.one h
  keep_ h hk := r.keep_ h hk
  more h hk := r.more h hk

/-- the slice (A, n, c) reads as the list l -/
def Sl (r : Rep α) (w : World) (B : Nat) (A : Option Addr) (n c : Nat) (l : List α) : Prop :=
  n = l.length ∧ n ≤ c ∧ c ≤ maxLen ∧ (A = none → c = 0) ∧ ∃ css : List (List Value), Rd w B r.size A n css.flatten ∧ All2 (r.cells w B) l css

def list (r : Rep α) : Rep (List α) where
  size := 1
  cells w B l cs := ∃ A n c, cs = [.slice A n c] ∧ r.Sl w B A n c l
  len := by rintro w B a cs ⟨A, n, c, rfl, _⟩; rfl
  one := by rintro w B a cs ⟨A, n, c, rfl, _⟩ u hu; simp at hu; subst hu; rfl
  keep_ := by
    rintro w w' B a cs ⟨A, n, c, rfl, h1, h2, h3, h4, css, h5, h6⟩ hk
    exact ⟨A, n, c, rfl, h1, h2, h3, h4, css, h5.keep_ hk, h6.imp fun x y h => r.keep_ h hk⟩
  more := by
    rintro w B B' a cs ⟨A, n, c, rfl, h1, h2, h3, h4, css, h5, h6⟩ hk
    exact ⟨A, n, c, rfl, h1, h2, h3, h4, css, h5.more hk, h6.imp fun x y h => r.more h hk⟩

theorem flat_len {r : Rep α} {w : World} {B : Nat} : ∀ {l : List α} {css : List (List Value)}, All2 (r.cells w B) l css → css.flatten.length = l.length * r.size := by
  intro l
  induction l with
  | nil =>
    intro css h
    cases css with
    | nil => simp
    | cons c css => exact h.elim
  | cons a l ih =>
    intro css h
    cases css with
    | nil => exact h.elim
    | cons c css =>
      rw [List.flatten_cons, List.length_append, r.len h.1, ih h.2, List.length_cons, Nat.succ_mul]; omega
theorem flat_at {r : Rep α} {w : World} {B : Nat} : ∀ {l : List α} {css : List (List Value)} {i j : Nat} {cs : List Value}, All2 (r.cells w B) l css → css[i]? = some cs → j < r.size → css.flatten[i * r.size + j]? = cs[j]? := by
  intro l
  induction l with
  | nil =>
    intro css i j cs h hi
    cases css with
    | nil => simp at hi
    | cons c css => exact h.elim
  | cons a l ih =>
    intro css i j cs h hi hj
    cases css with
    | nil => exact h.elim
    | cons c css =>
      have hc := r.len h.1
      cases i with
      | zero =>
        simp only [List.getElem?_cons_zero, Option.some.injEq] at hi
        subst hi
        rw [List.flatten_cons, Nat.zero_mul, Nat.zero_add, List.getElem?_append_left (by omega)]
      | succ i =>
        rw [List.getElem?_cons_succ] at hi
        rw [List.flatten_cons, List.getElem?_append_right (by rw [hc, Nat.succ_mul]; omega), hc, show (i + 1) * r.size + j - r.size = i * r.size + j by rw [Nat.succ_mul]; omega]
        exact ih h.2 hi hj

namespace Sl
variable {r : Rep α} {w w' : World} {B B' n c : Nat} {A : Option Addr} {l : List α}
theorem nil (r : Rep α) (w : World) (B : Nat) : r.Sl w B none 0 0 [] := ⟨rfl, Nat.le_refl _, by unfold maxLen; omega, fun _ => rfl, [], Rd.nil _ _ _ _, trivial⟩
theorem len (h : r.Sl w B A n c l) : n = l.length := h.1
theorem cap (h : r.Sl w B A n c l) : n ≤ c := h.2.1
theorem keep_ (h : r.Sl w B A n c l) (hk : ∀ p : Addr, p.block < B → p.block < w.heap.size → w'.cell? p = w.cell? p) : r.Sl w' B A n c l := by
  obtain ⟨h1, h2, h3, h4, css, h5, h6⟩ := h
  exact ⟨h1, h2, h3, h4, css, h5.keep_ hk, h6.imp fun x y h => r.keep_ h hk⟩
theorem keep {S : Nat → Prop} (h : r.Sl w B A n c l) (hk : Keep S w w') (hS : ∀ k, S k → B ≤ k) : r.Sl w' B A n c l :=
  h.keep_ fun p h1 h2 => hk.cell h2 (fun e => by have := hS _ e; omega)
theorem more (h : r.Sl w B A n c l) (hB : B ≤ B') : r.Sl w B' A n c l := by
  obtain ⟨h1, h2, h3, h4, css, h5, h6⟩ := h
  exact ⟨h1, h2, h3, h4, css, h5.more hB, h6.imp fun x y h => r.more h hB⟩
theorem drewN (h : r.Sl w B A n c l) (k : Nat) : r.Sl (w.drewN k) B A n c l := h.keep_ fun _ _ _ => rfl
theorem drew (h : r.Sl w B A n c l) : r.Sl w.drew B A n c l := h.keep_ fun _ _ _ => rfl
theorem alloc (h : r.Sl w B A n c l) (o : Obj) : r.Sl (w.alloc o) B A n c l := h.keep_ fun p _ hp => World.cell?_alloc_lt w o p hp
/-- element i, and its cells -/
theorem at_ (h : r.Sl w B A n c l) {i : Nat} (hi : i < n) : ∃ ad a cs, A = some ad ∧ ad.block < B ∧ l[i]? = some a ∧ r.cells w B a cs ∧ ∀ j, j < r.size → w.cell? (ad.add (i * r.size + j)) = cs[j]? := by
  obtain ⟨h1, h2, h3, _, css, h5, h6⟩ := h
  have hl : l[i]? = some (l[i]'(by omega)) := List.getElem?_eq_getElem (by omega)
  obtain ⟨cs, hcs, hc⟩ := h6.at_ hl
  obtain ⟨ad, hA, hb, hat⟩ := h5.at_ hi
  refine ⟨ad, _, cs, hA, hb, hl, hc, fun j hj => ?_⟩
  obtain ⟨u, hu, hcell⟩ := hat j hj
  rw [hcell, ← hu]
  exact flat_at h6 hcs hj
theorem rd (h : r.Sl w B A n c l) : ∃ css : List (List Value), Rd w B r.size A n css.flatten ∧ All2 (r.cells w B) l css := h.2.2.2.2
/-- an owned row reads as a slice -/
theorem of_own {base e : Nat} {css : List (List Value)} (h : Own w base e r.size A n c css.flatten) (ha : All2 (r.cells w B) l css) (hl : n = l.length) (hB : B ≤ w.heap.size) : r.Sl w w.heap.size A n c l := by
  refine ⟨hl, h.cap_le, ?_, ?_, css, h.rd, ha.imp fun x y hh => r.more hh hB⟩
  · rcases h.form with ⟨_, _, rfl, _⟩ | ⟨_, _, _, _, _, _, hc, _⟩
    · unfold maxLen; omega
    · exact hc
  · rintro rfl
    rcases h.form with ⟨_, _, hc, _⟩ | ⟨_, _, h1, _⟩
    · exact hc
    · cases h1
end Sl

/-- what comes in of type t is data of r -/
def Opens (P : Program) (t : TypeId) (r : Rep α) : Prop :=
  ∀ {H : Type} (enc : TypeId × Value → H) (w : World) (spare : Nat → Bool) (held : Bool) (fuel : Nat) (cs : List Value) (x : DataW H × List MemPlace),
    DataW.trod enc P w 0 spare held fuel t cs = some x → ∃ a, r.cells w w.heap.size a cs

theorem opens_int {P : Program} {t : TypeId} (ht : P.underlying t = some (.int .i64)) : Opens P t int := by
  intro H enc w spare held fuel cs x h
  obtain ⟨n, rfl, _, hwf⟩ := DataW.trod_int ht h
  have : -9223372036854775808 ≤ n ∧ n ≤ 9223372036854775807 := by simpa [Lit.wf, IntKind.min, IntKind.max, IntKind.signed, IntKind.bits] using hwf
  exact ⟨n, rfl, this⟩
theorem opens_byte {P : Program} {t : TypeId} (ht : P.underlying t = some (.int .u8)) : Opens P t byte := by
  intro H enc w spare held fuel cs x h
  obtain ⟨n, rfl, _, hwf⟩ := DataW.trod_int ht h
  have : 0 ≤ n ∧ n ≤ 255 := by simpa [Lit.wf, IntKind.min, IntKind.max, IntKind.signed, IntKind.bits] using hwf
  exact ⟨n.toNat, by rw [u8v, Int.toNat_of_nonneg this.1], by omega⟩
theorem opens_bool {P : Program} {t : TypeId} (ht : P.underlying t = some .bool) : Opens P t bool := by
  intro H enc w spare held fuel cs x h
  obtain ⟨n, rfl, _⟩ := DataW.trod_bool ht h
  exact ⟨n, rfl⟩
theorem opens_of {P : Program} {t : TypeId} {r : Rep β} (h : Opens P t r) (f : α → β) (g : β → α) (hg : ∀ b, f (g b) = b) : Opens P t (r.of f) := by
  intro H enc w spare held fuel cs x hx
  obtain ⟨b, hb⟩ := h enc w spare held fuel cs x hx
  exact ⟨g b, by show r.cells w _ (f (g b)) cs; rw [hg]; exact hb⟩
theorem opens_list {P : Program} {t e : TypeId} {r : Rep α} (ht : P.underlying t = some (.slice e)) (hsz : P.cellsOf e = r.size) (hpos : 0 < r.size) (h : Opens P e r) : Opens P t r.list := by
  intro H enc w spare held fuel cs x hx
  rcases Go.Deep.open_slice ht hx with ⟨rfl, _⟩ | ⟨a, len, cap, m, n, D, Pl, rfl, _, hlc, hcm, hm, _, hat⟩
  · exact ⟨[], none, 0, 0, rfl, Sl.nil _ _ _⟩
  · have hlm : len ≤ m := by rw [hm]; split <;> omega
    have hch : ∀ i, ∃ cs' : List Value, ∃ b : Option α, i < len → w.cells? 0 (a.add (i * r.size)) r.size = some cs' ∧ ∃ y, b = some y ∧ r.cells w w.heap.size y cs' := by
      intro i
      by_cases hi : i < len
      · obtain ⟨cs', h1, h2⟩ := hat i (by omega)
        rw [hsz] at h1
        obtain ⟨y, hy⟩ := h enc w spare held n cs' _ h2
        exact ⟨cs', some y, fun _ => ⟨h1, y, rfl, hy⟩⟩
      · exact ⟨[], none, fun h' => absurd h' hi⟩
    obtain ⟨f, hf⟩ := Classical.axiomOfChoice hch
    obtain ⟨g, hg⟩ := Classical.axiomOfChoice hf
    by_cases hlen : len = 0
    · subst hlen
      exact ⟨[], some a, 0, cap, rfl, rfl, Nat.zero_le _, hcm, (fun h => (by cases h)), [], Rd.nil _ _ _ _, trivial⟩
    · have hne : ∃ y0 : α, True := by
        obtain ⟨_, y, _, _⟩ := hg 0 (by omega)
        exact ⟨y, trivial⟩
      obtain ⟨y0, _⟩ := hne
      have hall : All2 (r.cells w w.heap.size) ((List.range len).map fun i => (g i).getD y0) ((List.range len).map f) :=
        All2.of_range f _ fun i hi => by
          obtain ⟨_, y, h1, h2⟩ := hg i hi
          simpa [h1] using h2
      refine ⟨(List.range len).map fun i => (g i).getD y0, some a, len, cap, rfl, by simp, hlc, hcm, fun h => (by cases h), (List.range len).map f, ⟨?_, fun _ => ⟨a, rfl, ?_, ?_⟩⟩, hall⟩
      · rw [flat_len hall]; simp
      · obtain ⟨h1, _⟩ := hg 0 (by omega)
        obtain ⟨_, h2, h3⟩ := World.cells?_some h1
        have h4 := h3 0 hpos
        rw [List.getElem?_eq_getElem (by omega)] at h4
        have := cell_lt h4
        rwa [block_add, block_add] at this
      · intro k u hu
        have hk : k < len * r.size := by
          have h1 := (List.getElem?_eq_some_iff.1 hu).1
          rw [flat_len hall] at h1
          simpa using h1
        have hdiv : k / r.size < len := Nat.div_lt_of_lt_mul (by rw [Nat.mul_comm]; exact hk)
        have hmod : k % r.size < r.size := Nat.mod_lt _ hpos
        have hkk : k / r.size * r.size + k % r.size = k := by rw [Nat.mul_comm]; exact Nat.div_add_mod k r.size
        obtain ⟨h1, _⟩ := hg (k / r.size) hdiv
        obtain ⟨_, _, h3⟩ := World.cells?_some h1
        have h4 := h3 (k % r.size) hmod
        rw [add_add, hkk] at h4
        rw [h4, ← hu, ← flat_at (r := r) (w := w) (B := w.heap.size) hall (i := k / r.size) (cs := f (k / r.size)) (by simp [hdiv]) hmod, hkk]

/-- a struct's fields from cell 'off' on -/
def FOpens (P : Program) (fs : List Field) (off : Nat) (r : Rep α) : Prop :=
  ∀ {H : Type} (enc : TypeId × Value → H) (w : World) (spare : Nat → Bool) (held : Bool) (fuel : Nat) (cs : List Value),
    (∀ f ∈ fs, ∃ x, DataW.trod enc P w 0 spare held fuel f.type ((cs.drop f.offset).take (P.cellsOf f.type)) = some x) → cs.length = off + r.size → ∃ a, r.cells w w.heap.size a (cs.drop off)
theorem fopens_nil (P : Program) (off : Nat) : FOpens P [] off unit := by
  intro H enc w spare held fuel cs _ hl
  exact ⟨(), List.drop_eq_nil_of_le (by rw [hl]; exact Nat.le_refl _)⟩
theorem fopens_cons {P : Program} {f : Field} {fs : List Field} {off : Nat} {r : Rep α} {s : Rep β} (ho : f.offset = off) (hc : P.cellsOf f.type = r.size) (h : Opens P f.type r) (h' : FOpens P fs (off + r.size) s) :
    FOpens P (f :: fs) off (r.pair s) := by
  intro H enc w spare held fuel cs hf hl
  obtain ⟨x, hx⟩ := hf f (by simp)
  rw [ho, hc] at hx
  obtain ⟨a, ha⟩ := h enc w spare held fuel _ _ hx
  obtain ⟨b, hb⟩ := h' enc w spare held fuel cs (fun g hg => hf g (by simp [hg])) (by rw [hl]; show off + (r.size + s.size) = _; omega)
  refine ⟨(a, b), (cs.drop off).take r.size, cs.drop (off + r.size), ?_, ha, hb⟩
  rw [← List.drop_drop, List.take_append_drop]
/-- the last field stands alone -/
theorem fopens_last {P : Program} {f : Field} {off : Nat} {r : Rep α} (ho : f.offset = off) (hc : P.cellsOf f.type = r.size) (h : Opens P f.type r) : FOpens P [f] off r := by
  intro H enc w spare held fuel cs hf hl
  obtain ⟨x, hx⟩ := hf f (by simp)
  rw [ho, hc, List.take_of_length_le (by rw [List.length_drop, hl]; omega)] at hx
  exact h enc w spare held fuel _ _ hx
theorem opens_struct {P : Program} {t : TypeId} {fs : Array Field} {r : Rep α} (ht : P.underlying t = some (.struct fs)) (hsz : P.cellsOf t = r.size) (h : FOpens P fs.toList 0 r) : Opens P t r := by
  intro H enc w spare held fuel cs x hx
  obtain ⟨xs, n, _, _, hlen, hxl, hat⟩ := DataW.trod_struct ht hx
  obtain ⟨a, ha⟩ := h enc w spare held n cs (fun f hf => by
    obtain ⟨i, hi, rfl⟩ := List.mem_iff_getElem.1 hf
    have hi' : i < fs.size := by simpa using hi
    have h1 := hat i fs[i] (by simp [hi'])
    rw [List.getElem?_eq_getElem (by omega)] at h1
    exact ⟨_, by simpa using h1⟩) (by omega)
  exact ⟨a, by simpa using ha⟩
end Rep

end Go.Proofs.YtiebjnibmomcjaaDoor
