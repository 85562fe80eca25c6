/- Words for memory: what a call may have turned (Keep), a slice that reads as a list (Rd), a slice of the call's own (Own), a block known whole (Blk). -/
import Derived.Test.YtiebjnibmomcjaaDoorRows
import Derived.WalkKit
import Derived.WalkSpells
import Derived.WalkLawsBesides
import Derived.Lib.Hide
import Derived.Deep.QuietTactic
import Derived.BigQuiet
import Derived.Maps.AppendAt
import Derived.Deep.AppendLies
import Derived.Deep.Draws
import Derived.Laws.CopyOwn
namespace Go.Proofs.YtiebjnibmomcjaaDoor
open Go.RowKit

/-- 'w'' is 'w' but for the blocks of S, and new ones. -/
structure Keep (S : Nat → Prop) (w w' : World) : Prop where
  os : w'.os = w.os
  tape : w'.tape = w.tape
  output : w'.output = w.output
  size : w.heap.size ≤ w'.heap.size
  block : ∀ k, k < w.heap.size → ¬ S k → w'.heap[k]? = w.heap[k]?

def Never (_ : Nat) : Prop := False

namespace Keep
variable {S S' : Nat → Prop} {w a b c w' : World}
theorem refl (S : Nat → Prop) (w : World) : Keep S w w := ⟨rfl, rfl, rfl, Nat.le_refl _, fun _ _ _ => rfl⟩
theorem trans (h : Keep S a b) (k : Keep S b c) : Keep S a c :=
  ⟨k.os.trans h.os, k.tape.trans h.tape, k.output.trans h.output, Nat.le_trans h.size k.size,
   fun i hi hs => (k.block i (Nat.lt_of_lt_of_le hi h.size) hs).trans (h.block i hi hs)⟩
/-- what came behind turned only what is new, or of S -/
theorem then_ (h : Keep S a b) (k : Keep S' b c) (hs : ∀ i, i < a.heap.size → S' i → S i) : Keep S a c :=
  ⟨k.os.trans h.os, k.tape.trans h.tape, k.output.trans h.output, Nat.le_trans h.size k.size,
   fun i hi hn => (k.block i (Nat.lt_of_lt_of_le hi h.size) (fun e => hn (hs i hi e))).trans (h.block i hi hn)⟩
theorem mono (h : Keep S a b) (hs : ∀ i, i < a.heap.size → S i → S' i) : Keep S' a b :=
  ⟨h.os, h.tape, h.output, h.size, fun i hi hn => h.block i hi (fun e => hn (hs i hi e))⟩
theorem drew (h : Keep S a b) : Keep S a b.drew := ⟨h.os, h.tape, h.output, h.size, h.block⟩
theorem drewN (h : Keep S a b) (n : Nat) : Keep S a (b.drewN n) := ⟨h.os, h.tape, h.output, h.size, h.block⟩
theorem drewL (h : Keep S a.drew b) : Keep S a b := ⟨h.os, h.tape, h.output, h.size, h.block⟩
theorem drewNL {n : Nat} (h : Keep S (a.drewN n) b) : Keep S a b := ⟨h.os, h.tape, h.output, h.size, h.block⟩
theorem alloc (h : Keep S a b) (o : Obj) : Keep S a (b.alloc o) :=
  h.trans ⟨rfl, rfl, rfl, by simp, fun k hk _ => Below.heap_alloc _ _ _ hk⟩
theorem set_ (h : Keep S a b) {p : Addr} (hp : S p.block ∨ a.heap.size ≤ p.block) (u : Value) : Keep S a (b.setCell p u) :=
  h.then_ (S' := fun k => k = p.block) ⟨rfl, rfl, rfl, by simp [World.setCell], fun k _ hk => Below.heap_setCell _ _ _ _ hk⟩
    (fun i hi e => by subst e; rcases hp with hp | hp; exact hp; omega)
theorem grown {row : Option Nat} (h : Keep S a b) (hg : b.grownBy c row) (hr : ∀ k, row = some k → k < a.heap.size → S k) : Keep S a c :=
  h.then_ (S' := fun k => some k = row) ⟨hg.os, hg.tape, hg.output, hg.size, fun k hk hn => hg.block k hk hn⟩ (fun i hi e => hr i e.symm hi)
theorem of_below {B : Nat} (hg : Below B a b) : Keep (fun k => B ≤ k) a b := ⟨hg.os, hg.tape, hg.output, hg.size, fun k _ hn => hg.block k (by omega)⟩
theorem below {B : Nat} (h : Keep S a b) (hB : B ≤ a.heap.size) (hs : ∀ k, S k → B ≤ k) : Below B a b :=
  ⟨h.os, h.tape, h.output, h.size, fun k hk => h.block k (by omega) (fun e => by have := hs k e; omega)⟩
theorem cell (h : Keep S a b) {p : Addr} (hp : p.block < a.heap.size) (hn : ¬ S p.block) : b.cell? p = a.cell? p := World.cell?_of_block (h.block p.block hp hn)
theorem frozen (h : Keep S a b) {p : Addr} (hp : p.block < a.heap.size) (hn : ¬ S p.block) : b.frozen? p = a.frozen? p := World.frozen?_of_block (h.block p.block hp hn)
end Keep

theorem cell_lt {w : World} {p : Addr} {u : Value} (h : w.cell? p = some u) : p.block < w.heap.size := World.block_lt_of_cell? w p h

theorem block_add (a : Addr) (n : Nat) : (a.add n).block = a.block := by unfold Addr.add; split <;> rfl
theorem add_add (a : Addr) (i j : Nat) : (a.add i).add j = a.add (i + j) := by
  unfold Addr.add
  by_cases hi : i = 0 <;> by_cases hj : j = 0 <;> simp [hi, hj, Nat.add_assoc]

/-- a field's address, as the walk spells it -/
theorem fld (a : Addr) (i : Nat) {j : Nat} (hj : 0 < j) : a.add (i + j) = ⟨(a.add i).block, (a.add i).off + j, none⟩ := by
  rw [← add_add]
  generalize a.add i = b
  unfold Addr.add
  rw [if_neg (by omega)]

/-- the slice (A, n) reads as the cells xs ('size' cells an element); its array lies below block B -/
def Rd (w : World) (B size : Nat) (A : Option Addr) (n : Nat) (xs : List Value) : Prop :=
  xs.length = n * size ∧ (0 < n → ∃ ad, A = some ad ∧ ad.block < B ∧ ∀ j u, xs[j]? = some u → w.cell? (ad.add j) = some u)

namespace Rd
variable {w w' : World} {B B' size n : Nat} {A : Option Addr} {xs : List Value}
theorem nil (w : World) (B size : Nat) (A : Option Addr) : Rd w B size A 0 [] := ⟨by simp, fun h => absurd h (by omega)⟩
theorem at_ {k : Nat} (h : Rd w B size A n xs) (hk : k < n) : ∃ ad, A = some ad ∧ ad.block < B ∧ ∀ j, j < size → ∃ u, xs[k * size + j]? = some u ∧ w.cell? (ad.add (k * size + j)) = some u := by
  obtain ⟨ad, e, hb, hc⟩ := h.2 (by omega)
  refine ⟨ad, e, hb, fun j hj => ?_⟩
  have hl : k * size + j < xs.length := by
    rw [h.1]
    have : k * size + size ≤ n * size := by rw [← Nat.succ_mul]; exact Nat.mul_le_mul_right _ hk
    omega
  exact ⟨xs[k * size + j], List.getElem?_eq_getElem hl, hc _ _ (List.getElem?_eq_getElem hl)⟩
theorem keep_ (h : Rd w B size A n xs) (hk : ∀ p : Addr, p.block < B → p.block < w.heap.size → w'.cell? p = w.cell? p) : Rd w' B size A n xs :=
  ⟨h.1, fun hn => by
    obtain ⟨ad, e, hb, hc⟩ := h.2 hn
    refine ⟨ad, e, hb, fun j u hu => ?_⟩
    have h1 := hc j u hu
    rw [hk _ (by rw [block_add]; exact hb) (cell_lt h1)]
    exact h1⟩
theorem more (h : Rd w B size A n xs) (hB : B ≤ B') : Rd w B' size A n xs :=
  ⟨h.1, fun hn => by
    obtain ⟨ad, e, hb, hc⟩ := h.2 hn
    exact ⟨ad, e, by omega, hc⟩⟩
theorem keep {S : Nat → Prop} (h : Rd w B size A n xs) (hb : Keep S w w') (hS : ∀ k, S k → B ≤ k) : Rd w' B size A n xs :=
  h.keep_ fun p h1 h2 => hb.cell h2 (fun e => by have := hS _ e; omega)
/-- whatever the base: the array's own block is none of S -/
theorem keep_far {S : Nat → Prop} (h : Rd w B size A n xs) (hb : Keep S w w') (hS : ∀ ad, A = some ad → 0 < n → ¬ S ad.block) : Rd w' B size A n xs :=
  ⟨h.1, fun hn => by
    obtain ⟨ad, e, hB, hc⟩ := h.2 hn
    refine ⟨ad, e, hB, fun j u hu => ?_⟩
    have h1 := hc j u hu
    rw [hb.cell (cell_lt h1) (by rw [block_add]; exact hS ad e hn)]
    exact h1⟩
theorem drew (h : Rd w B size A n xs) : Rd w.drew B size A n xs := h
theorem drewN (h : Rd w B size A n xs) (k : Nat) : Rd (w.drewN k) B size A n xs := h
theorem alloc (h : Rd w B size A n xs) (o : Obj) : Rd (w.alloc o) B size A n xs := h.keep_ fun p _ hp => World.cell?_alloc_lt w o p hp
theorem set_ (h : Rd w B size A n xs) {p : Addr} (hB : B ≤ p.block) (u : Value) : Rd (w.setCell p u) B size A n xs :=
  h.keep_ fun q hq _ => World.cell?_setCell_other w p q u (fun e => by subst e; omega)
theorem at_heap (h : Rd w B size A n xs) (hs : 0 < size) : Rd w w.heap.size size A n xs :=
  ⟨h.1, fun hn => by
    obtain ⟨ad, e, _, hc⟩ := h.2 hn
    have hl : 0 < xs.length := by rw [h.1]; exact Nat.mul_pos hn hs
    have := cell_lt (hc 0 _ (List.getElem?_eq_getElem hl))
    exact ⟨ad, e, by rwa [block_add] at this, hc⟩⟩
theorem cut (h : Rd w B size A n xs) {k cap : Nat} (hk : k ≤ n) (hc : n ≤ cap) :
    Rd w B size (if cap = k then A else A.map (·.add (k * size))) (n - k) (xs.drop (k * size)) := by
  refine ⟨by rw [List.length_drop, h.1, Nat.sub_mul], fun hn => ?_⟩
  obtain ⟨ad, rfl, hb, hcell⟩ := h.2 (by omega)
  rw [if_neg (by omega)]
  refine ⟨ad.add (k * size), rfl, by rw [block_add]; exact hb, fun j u hu => ?_⟩
  rw [add_add]
  exact hcell _ u (by rw [← hu, List.getElem?_drop])
end Rd

/-- block g is just the cells cs, of element type t -/
def Blk (w : World) (g : Nat) (t : TypeId) (cs : Array Value) : Prop := w.heap[g]? = some (.cells cs t (0, 0))

namespace Blk
variable {w w' : World} {g : Nat} {t : TypeId} {cs : Array Value}
theorem lt (h : Blk w g t cs) : g < w.heap.size := by
  rcases Nat.lt_or_ge g w.heap.size with hlt | hge
  · exact hlt
  · unfold Blk at h; rw [Array.getElem?_eq_none hge] at h; cases h
theorem cell (h : Blk w g t cs) (i : Nat) : w.cell? ⟨g, i, none⟩ = cs[i]? := cell_of_row w g i cs t (0, 0) h
theorem frozen (h : Blk w g t cs) (i : Nat) : w.frozen? ⟨g, i, none⟩ = false := by unfold Blk at h; simp [World.frozen?, h]
theorem new (w : World) (t : TypeId) (cs : Array Value) : Blk (w.alloc (.cells cs t)) w.heap.size t cs := heap_alloc_new w _
theorem drew (h : Blk w g t cs) : Blk w.drew g t cs := h
theorem drewN (h : Blk w g t cs) (n : Nat) : Blk (w.drewN n) g t cs := h
theorem alloc (h : Blk w g t cs) (o : Obj) : Blk (w.alloc o) g t cs := (Below.heap_alloc w o g h.lt).trans h
theorem set_ (h : Blk w g t cs) (i : Nat) (u : Value) : Blk (w.setCell ⟨g, i, none⟩ u) g t (cs.setIfInBounds i u) := by
  unfold Blk at h ⊢
  simp [World.setCell, Array.getElem?_modify, h]
theorem far (h : Blk w g t cs) {p : Addr} (hp : g ≠ p.block) (u : Value) : Blk (w.setCell p u) g t cs := (Below.heap_setCell w p u g hp).trans h
theorem keep {S : Nat → Prop} (h : Blk w g t cs) (hb : Keep S w w') (hS : ¬ S g) : Blk w' g t cs := (hb.block g h.lt hS).trans h
theorem ne_ {g' : Nat} {t' : TypeId} {cs' : Array Value} (h : Blk w g t cs) (h' : Blk w g' t' cs') (hne : t ≠ t') : g ≠ g' := by
  rintro rfl
  unfold Blk at h h'
  rw [h] at h'
  injection h' with h'
  injection h' with _ ht
  exact hne ht
end Blk

/-- the slice (A, n, c) is the call's own: its array is a block from 'base' on, of element type e, that nobody else has; it reads as xs -/
def Own (w : World) (base : Nat) (e : TypeId) (size : Nat) (A : Option Addr) (n c : Nat) (xs : List Value) : Prop := w.ownsRow base e size (.slice A n c) n xs

/-- the block of a slice -/
def InRow (A : Option Addr) (k : Nat) : Prop := ∃ ad, A = some ad ∧ ad.block = k

namespace Own
variable {w w' : World} {base e size n c : Nat} {A : Option Addr} {xs : List Value}
theorem nil (w : World) (base e size : Nat) : Own w base e size none 0 0 [] := World.ownsRow_nil w base e size
theorem len (h : Own w base e size A n c xs) : xs.length = n * size := h.1
theorem row (h : Own w base e size A n c xs) {k : Nat} (hk : InRow A k) : base ≤ k ∧ k < w.heap.size := by
  obtain ⟨ad, rfl, rfl⟩ := hk
  exact h.lt _ rfl
theorem form (h : Own w base e size A n c xs) : (A = none ∧ n = 0 ∧ c = 0 ∧ xs = []) ∨ ∃ g cur, A = some ⟨g, 0, none⟩ ∧ base ≤ g ∧ Blk w g e cur ∧ n ≤ c ∧ c ≤ maxLen ∧ cur.size = c * size ∧ cur.toList.take (n * size) = xs := by
  rcases h.2 with ⟨h1, h2⟩ | ⟨g, cap, cur, h1, h2, h3, h4, h5, h6, h7⟩
  · injection h1 with a b d
    subst h2
    exact .inl ⟨a, rfl, d, List.eq_nil_of_length_eq_zero (by simpa using h.1)⟩
  · injection h1 with a b d
    subst d
    exact .inr ⟨g, cur, a, h2, h3, h4, h5, h6, h7⟩
theorem rd (h : Own w base e size A n c xs) : Rd w w.heap.size size A n xs := by
  refine ⟨h.1, fun hn => ?_⟩
  rcases h.form with ⟨rfl, rfl, _⟩ | ⟨g, cur, rfl, _, hb, _⟩
  · omega
  · exact ⟨_, rfl, hb.lt, World.ownsRow.cells h (g := g) rfl⟩
theorem cap_le (h : Own w base e size A n c xs) : n ≤ c := by
  rcases h.form with ⟨rfl, rfl, rfl, rfl⟩ | ⟨g, cur, rfl, _, hb, hn, _⟩
  · omega
  · exact hn
theorem drew (h : Own w base e size A n c xs) : Own w.drew base e size A n c xs := h
theorem drewN (h : Own w base e size A n c xs) (k : Nat) : Own (w.drewN k) base e size A n c xs := h
theorem alloc (h : Own w base e size A n c xs) (o : Obj) : Own (w.alloc o) base e size A n c xs := World.ownsRow.alloc h o
theorem keep {S : Nat → Prop} (h : Own w base e size A n c xs) (hb : Keep S w w') (hS : ∀ k, InRow A k → ¬ S k) : Own w' base e size A n c xs := by
  refine ⟨h.1, ?_⟩
  rcases h.2 with hn | ⟨g, cap, cur, hv, hbg, hh, r⟩
  · exact .inl hn
  · injection hv with h1 h2 h3
    subst h1
    exact .inr ⟨g, cap, cur, by rw [h3], hbg, by rw [hb.block g (Array.getElem?_eq_some_iff.1 hh).1 (hS g ⟨_, rfl, rfl⟩)]; exact hh, r⟩
theorem less (h : Own w base e size A n c xs) {b : Nat} (hb : b ≤ base) : Own w b e size A n c xs := by
  refine ⟨h.1, ?_⟩
  rcases h.2 with hn | ⟨g, cap, cur, hv, hbg, r⟩
  · exact .inl hn
  · exact .inr ⟨g, cap, cur, hv, by omega, r⟩
theorem far (h : Own w base e size A n c xs) {p : Addr} (hp : ∀ k, InRow A k → k ≠ p.block) (u : Value) : Own (w.setCell p u) base e size A n c xs :=
  h.keep (S := fun k => k = p.block) ⟨rfl, rfl, rfl, by simp [World.setCell], fun k _ hk => Below.heap_setCell _ _ _ _ hk⟩ (fun k hk e => hp k hk e)
/-- rows of other element types are other blocks -/
theorem ne_blk (h : Own w base e size A n c xs) {g : Nat} {t : TypeId} {cs : Array Value} (hg : Blk w g t cs) (hne : e ≠ t) : ∀ k, InRow A k → k ≠ g := by
  rintro k ⟨ad, rfl, rfl⟩
  rcases h.form with ⟨h1, _⟩ | ⟨g', cur, h1, _, hb, _⟩
  · cases h1
  · injection h1 with h1
    subst h1
    exact Blk.ne_ hb hg hne
theorem ne_own (h : Own w base e size A n c xs) {base' e' size' n' c' : Nat} {A' : Option Addr} {xs' : List Value} (h' : Own w base' e' size' A' n' c' xs') (hne : e ≠ e') : ∀ k, InRow A k → ¬ InRow A' k := by
  rintro k hk ⟨ad, rfl, rfl⟩
  rcases h'.form with ⟨h1, _⟩ | ⟨g', cur, h1, _, hb, _⟩
  · cases h1
  · injection h1 with h1
    subst h1
    exact h.ne_blk hb hne _ hk rfl
/-- a cell of the own row is written -/
theorem stored (h : Own w base e size A n c xs) {ad : Addr} (hA : A = some ad) (j : Nat) (u : Value) : Own (w.setCell (ad.add j) u) base e size A n c (xs.set j u) := by
  subst hA
  rcases h.form with ⟨h1, _⟩ | ⟨g', cur, h1, _, hb, _⟩
  · cases h1
  · injection h1 with h1
    subst h1
    have hadd : (⟨g', 0, none⟩ : Addr).add j = ⟨g', j, none⟩ := by unfold Addr.add; split <;> simp_all
    rw [hadd]
    exact (World.ownsRow.stored h j u).1
/-- the array's address -/
theorem addr (h : Own w base e size A n c xs) {ad : Addr} (hA : A = some ad) : ∃ g, ad = ⟨g, 0, none⟩ ∧ base ≤ g := by
  subst hA
  rcases h.form with ⟨h1, _⟩ | ⟨g', cur, h1, hg, hb, _⟩
  · cases h1
  · injection h1 with h1
    exact ⟨g', h1, hg⟩
theorem frozen (h : Own w base e size A n c xs) {ad : Addr} (hA : A = some ad) (j : Nat) : w.frozen? (ad.add j) = false := by
  subst hA
  rcases h.form with ⟨h1, _⟩ | ⟨g', cur, h1, hg, hb, _⟩
  · cases h1
  · injection h1 with h1
    subst h1
    have hadd : (⟨g', 0, none⟩ : Addr).add j = ⟨g', j, none⟩ := by unfold Addr.add; split <;> simp_all
    rw [hadd]
    exact hb.frozen j
/-- a store into the own row turns no block of another type -/
theorem stored_blk (h : Own w base e size A n c xs) {ad : Addr} (hA : A = some ad) (j : Nat) (u : Value) {g : Nat} {t : TypeId} {cs : Array Value} (hg : Blk w g t cs) (hne : e ≠ t) : Blk (w.setCell (ad.add j) u) g t cs :=
  hg.far (fun e => h.ne_blk hg hne ad.block ⟨ad, hA, rfl⟩ (by rw [block_add] at e; exact e.symm)) u
theorem stored_keep (_h : Own w base e size A n c xs) {ad : Addr} (hA : A = some ad) (j : Nat) (u : Value) : Keep (InRow A) w (w.setCell (ad.add j) u) :=
  (Keep.refl _ w).set_ (.inl ⟨ad, hA, by rw [block_add]⟩) u
theorem lit (w : World) (e : TypeId) (cs : Array Value) (n size : Nat) (hm : n ≤ maxLen) (hs : cs.size = n * size) :
    Own (w.alloc (.cells cs e)) w.heap.size e size (some ⟨w.heap.size, 0, none⟩) n n cs.toList := World.ownsRow_lit w cs n (Nat.le_refl _) hm hs
end Own

/-- what a slice type's elements are: their cells, their bytes -/
structure Elem (P : Program) (t e size bytes : Nat) : Prop where
  ht : P.underlying t = some (.slice e)
  hi : ∃ i z, P.info? e = some i ∧ i.zero = some z ∧ i.size = size ∧ i.bytes = bytes ∧ z.cells.size = size ∧ 0 < size

section
variable {P : Program} (w : World)
theorem run_append_of_nil (base t ty e : TypeId) (i : TypeInfo) (size : Nat) (ht : P.underlying t = some (.slice e)) (hi : P.info? e = some i)
    {A : Option Addr} {n c : Nat} {xs : List Value} (hown : Own w base e size A n c xs) (c' : Nat) : (Builtin.append_ #[t, t] ty #[.slice A n c, .slice none 0 c']).run P w = .ok (.slice A n c) w := by
  rcases hown.form with ⟨rfl, rfl, rfl, rfl⟩ | ⟨g, cur, rfl, _, _, hnc, _⟩
  · simp [Builtin.append_, run_underlying ht, sizeOf, typeInfo, hi, Builtin.lenOf, Builtin.firstCells]
  · simp [Builtin.append_, run_underlying ht, sizeOf, typeInfo, hi, Builtin.lenOf, Builtin.firstCells, hnc, storeCells]

theorem run_app {t e size bytes : Nat} (hE : Elem P t e size bytes) (ty base : TypeId) {A : Option Addr} {n c : Nat} {xs : List Value} (hown : Own w base e size A n c xs)
    {B : Nat} {A' : Option Addr} {m c' : Nat} {news : List Value} (hr : Rd w B size A' m news) (h1 : ∀ u ∈ news, u.oneCell' = true)
    (hbytes : (n + m) * bytes ≤ 140737488355328) (h63 : n + m ≤ maxLen) (hbase : base ≤ w.heap.size) :
    ∃ A2 c2 w2, (Builtin.append_ #[t, t] ty #[.slice A n c, .slice A' m c']).run P w = .ok (.slice A2 (n + m) c2) w2 ∧ Own w2 base e size A2 (n + m) c2 (xs ++ news) ∧ Keep (InRow A) w w2 ∧
      (∀ k, InRow A2 k → InRow A k ∨ k = w.heap.size) := by
  obtain ⟨i, z, hi, hz, hsize, hby, hzs, hsz⟩ := hE.hi
  by_cases hm : m = 0
  · subst hm
    have hn : news = [] := List.eq_nil_of_length_eq_zero (by simpa using hr.1)
    subst hn
    rcases A' with _ | ad
    · exact ⟨A, c, w, run_append_of_nil w base t ty e i size hE.ht hi hown c', by simpa using hown, Keep.refl _ _, fun k hk => .inl hk⟩
    · obtain ⟨v', w', hrun, h2, h3, _, h5⟩ := run_append_own_at (P := P) w base t ty e i z size bytes hE.ht hi hz hsize hby hzs hsz _ n xs hown ad 0 c' [] (by simp) (by simp) (by simp) h63 hbytes hbase
      have hf : ∃ A2 c2, v' = .slice A2 (n + 0) c2 := by
        rcases h2.2 with ⟨hv, hn⟩ | ⟨g, cap, _, hv, _⟩
        · rw [hn]; exact ⟨_, _, hv⟩
        · exact ⟨_, _, hv⟩
      obtain ⟨A2, c2, rfl⟩ := hf
      refine ⟨A2, c2, w', hrun, h2, ⟨h3.os, h3.tape, h3.output, h3.size, fun k hk hn => h3.block k hk (fun e => hn ?_)⟩, fun k hk => ?_⟩
      · rcases A with _ | ad' <;> simp [Value.ownBlock] at e
        exact ⟨ad', rfl, e.symm⟩
      · obtain ⟨ad2, rfl, rfl⟩ := hk
        rcases h5 with h5 | h5
        · rcases A with _ | ad' <;> simp [Value.ownBlock] at h5
          exact .inl ⟨ad', rfl, h5.symm⟩
        · right; simpa [Value.ownBlock] using h5
  · obtain ⟨ad, rfl, _, hcells⟩ := hr.2 (by omega)
    obtain ⟨v', w', hrun, h2, h3, _, h5⟩ := run_append_own_at (P := P) w base t ty e i z size bytes hE.ht hi hz hsize hby hzs hsz _ n xs hown ad m c' news hr.1 hcells h1 h63 hbytes hbase
    have hf : ∃ A2 c2, v' = .slice A2 (n + m) c2 := by
      rcases h2.2 with ⟨hv, hn⟩ | ⟨g, cap, _, hv, _⟩
      · omega
      · exact ⟨_, _, hv⟩
    obtain ⟨A2, c2, rfl⟩ := hf
    refine ⟨A2, c2, w', hrun, h2, ⟨h3.os, h3.tape, h3.output, h3.size, fun k hk hn => h3.block k hk (fun e => hn ?_)⟩, fun k hk => ?_⟩
    · rcases A with _ | ad' <;> simp [Value.ownBlock] at e
      exact ⟨ad', rfl, e.symm⟩
    · obtain ⟨ad2, rfl, rfl⟩ := hk
      rcases h5 with h5 | h5
      · rcases A with _ | ad' <;> simp [Value.ownBlock] at h5
        exact .inl ⟨ad', rfl, h5.symm⟩
      · right; simpa [Value.ownBlock] using h5

/-- append, at the operation -/
theorem wp_app {o : Oper} {a : Act} {K : Act → World → Prop} {Q : Exit → Act → World → Prop} (s x : Operand) (t : TypeId)
    (ho : o.op = .call { callee := .builtin .append, args := #[s, x], argTypes := #[t, t] })
    {e size bytes : Nat} (hE : Elem P t e size bytes) (base : Nat) {A : Option Addr} {n c : Nat} {xs : List Value} (hs : a.eval s = .slice A n c) (hown : Own w base e size A n c xs)
    (B : Nat) {A' : Option Addr} {m c' : Nat} {news : List Value} (hx : a.eval x = .slice A' m c') (hr : Rd w B size A' m news) (h1 : ∀ u ∈ news, u.oneCell' = true)
    (hbytes : (n + m) * bytes ≤ 140737488355328) (h63 : n + m ≤ maxLen) (hbase : base ≤ w.heap.size)
    (h : ∀ A2 c2 w2, Own w2 base e size A2 (n + m) c2 (xs ++ news) → Keep (InRow A) w w2 → Hid (∀ k, InRow A2 k → InRow A k ∨ k = w.heap.size) → K (a.put o.dst (.slice A2 (n + m) c2)) w2) : o.wp P a w K Q := by
  obtain ⟨A2, c2, w2, hrun, h2, h3, h4⟩ := run_app (P := P) w hE o.type base hown hr h1 hbytes h63 hbase (c' := c')
  unfold Oper.wp execOp
  simp only [ho, resolve, invoke, builtin, Sem.run_bind, Sem.run_pure, Result.andThen_ok, List.map_toArray, List.map_cons, List.map_nil, hs, hx, hrun]
  exact h A2 c2 w2 h2 h3 h4

/-- append, in a plain region -/
theorem wpList_app {ops : Array Oper} {rest : List Oper} {o : Oper} {a : Act} {Q : Exit → Act → World → Prop} (hgd : o.guard = none) (s x : Operand) (t : TypeId)
    (ho : o.op = .call { callee := .builtin .append, args := #[s, x], argTypes := #[t, t] })
    {e size bytes : Nat} (hE : Elem P t e size bytes) (base : Nat) {A : Option Addr} {n c : Nat} {xs : List Value} (hs : a.eval s = .slice A n c) (hown : Own w base e size A n c xs)
    (B : Nat) {A' : Option Addr} {m c' : Nat} {news : List Value} (hx : a.eval x = .slice A' m c') (hr : Rd w B size A' m news) (h1 : ∀ u ∈ news, u.oneCell' = true)
    (hbytes : (n + m) * bytes ≤ 140737488355328) (h63 : n + m ≤ maxLen) (hbase : base ≤ w.heap.size)
    (h : ∀ A2 c2 w2, Own w2 base e size A2 (n + m) c2 (xs ++ news) → Keep (InRow A) w w2 → Hid (∀ k, InRow A2 k → InRow A k ∨ k = w.heap.size) → wpList P ops Q rest (a.put o.dst (.slice A2 (n + m) c2)) w2) : wpList P ops Q (o :: rest) a w :=
  wpList_plain hgd fun _ hK => wp_app w s x t ho hE base hs hown B hx hr h1 hbytes h63 hbase fun A2 c2 w2 h2 h3 h4 => hK _ _ (h A2 c2 w2 h2 h3 h4)

/-- append, at a step of a region that draws -/
theorem step_app {ops : Array Oper} {o : Oper} {a : Act} {K : Act → World → Prop} {Q : Exit → Act → World → Prop} {E : Prop} (hgd : o.guard = none) (s x : Operand) (t : TypeId)
    (ho : o.op = .call { callee := .builtin .append, args := #[s, x], argTypes := #[t, t] })
    {e size bytes : Nat} (hE : Elem P t e size bytes) (base : Nat) {A : Option Addr} {n c : Nat} {xs : List Value} (hs : a.eval s = .slice A n c) (hown : Own w base e size A n c xs)
    (B : Nat) {A' : Option Addr} {m c' : Nat} {news : List Value} (hx : a.eval x = .slice A' m c') (hr : Rd w B size A' m news) (h1 : ∀ u ∈ news, u.oneCell' = true)
    (hbytes : (n + m) * bytes ≤ 140737488355328) (h63 : n + m ≤ maxLen) (hbase : base ≤ w.heap.size)
    (h : ∀ A2 c2 w2, Own w2 base e size A2 (n + m) c2 (xs ++ news) → Keep (InRow A) w w2 → Hid (∀ k, InRow A2 k → InRow A k ∨ k = w.heap.size) → K (a.put o.dst (.slice A2 (n + m) c2)) w2) :
    if Region.wanted o (yielded ops a.tmps) = true then Oper.wp P o a w K Q else E := by
  have hw : Region.wanted o (yielded ops a.tmps) = true := by simp [Region.wanted, hgd]
  rw [if_pos hw]
  exact wp_app w s x t ho hE base hs hown B hx hr h1 hbytes h63 hbase h
end

/-- copy over a whole row of the call's own (elements of one cell) -/
theorem wpList_cpy {P : Program} {w : World} {ops : Array Oper} {rest : List Oper} {o : Oper} {a : Act} {Q : Exit → Act → World → Prop} (hgd : o.guard = none) (d s : Operand) (t : TypeId)
    (ho : o.op = .call { callee := .builtin .copy, args := #[d, s], argTypes := #[t, t] }) {e bytes : Nat} (hE : Elem P t e 1 bytes) {g n c c' : Nat} {cur : Array Value} (hd : a.eval d = .slice (some ⟨g, 0, none⟩) n c)
    (hg : Blk w g e cur) (hcur : cur.size = n) {A : Option Addr} (hs : a.eval s = .slice A n c') (B : Nat) {xs : List Value} (hr : Rd w B 1 A n xs) (h1 : ∀ u ∈ xs, u.oneCell' = true)
    (h : ∀ w2, Hid (Blk w2 g e xs.toArray) → Keep (fun k => k = g) w w2 → wpList P ops Q rest (a.put o.dst (goInt n)) w2) : wpList P ops Q (o :: rest) a w := by
  refine wpList_plain hgd fun K hK => ?_
  obtain ⟨i, z, hi, hz, hsize, hby, hzs, hsz⟩ := hE.hi
  have hsz1 : (P.info? e).map (·.size) = some 1 := by rw [hi]; simp [hsize]
  have hxl : xs.length = n := by simpa using hr.1
  by_cases hn : n = 0
  · subst hn
    have hx : xs = [] := List.eq_nil_of_length_eq_zero hxl
    subst hx
    have hrun := run_copy_none (P := P) w t t o.type e (some ⟨g, 0, none⟩) A 0 c 0 c' hE.ht hsz1 rfl
    unfold Oper.wp
    simp [execOp, ho, resolve, invoke, builtin, hd, hs, hrun, Result.andThen]
    refine hK _ _ (h w ?_ (Keep.refl _ _))
    have : cur = #[] := Array.eq_empty_of_size_eq_zero hcur
    subst this
    exact hg
  · obtain ⟨ad, rfl, _, hcells⟩ := hr.2 (by omega)
    have hrun := run_copy_row (P := P) w t t o.type e g 0 n c ad n c' cur e xs hE.ht hsz1 hg (by simp [hxl]) hcells (by omega) h1
    unfold Oper.wp
    simp [execOp, ho, resolve, invoke, builtin, hd, hs, hrun, Result.andThen]
    have e1 : (cur.toList.take 0 ++ xs ++ cur.toList.drop (0 + xs.length)).toArray = xs.toArray := by
      rw [List.drop_eq_nil_of_le (by simp; omega)]; simp
    have e2 : (goInt xs.length) = goInt n := by rw [hxl]
    simp only [List.take_zero, List.nil_append, Nat.zero_add] at e1
    have h2 := h (w.setRow g xs.toArray) (setRow_heap w g cur _ e _ hg) ⟨rfl, rfl, rfl, by simp, fun k _ hk => setRow_other w g k _ hk⟩
    rw [← e2] at h2
    have e3 : (xs ++ cur.toList.drop xs.length) = xs := by rw [List.drop_eq_nil_of_le (by simp; omega)]; simp
    first
      | exact hK _ _ h2
      | (simp only [e3] at *; exact hK _ _ h2)
      | (refine hK _ _ ?_; rw [show w.setRow g (xs ++ cur.toList.drop xs.length).toArray = w.setRow g xs.toArray by rw [e3]]; exact h2)

/-- a new row of n noughts (bytes) -/
def zerosU8 (n : Nat) : Array Value := madeCells #[.int .u8 0] n
theorem size_zerosU8 (n : Nat) : (zerosU8 n).size = n := size_madeCells _ _

/-- quotients and remainders in the forms of a region that draws -/
theorem wrap_tdiv {x p : Int} (h0 : 0 ≤ x) (h1 : 1 ≤ p) (h2 : x ≤ 9223372036854775807) : IntKind.i64.wrap (x.tdiv p) = x / p := by
  have a := Int.ediv_nonneg h0 (show 0 ≤ p by omega)
  have b := Int.ediv_le_self p h0
  rw [Int.tdiv_eq_ediv_of_nonneg h0, IntWalk.i64_in _ ⟨by omega, by omega⟩]
theorem wrap_tmod {x p : Int} (h0 : 0 ≤ x) (h1 : 1 ≤ p) (h2 : x ≤ 9223372036854775807) : IntKind.i64.wrap (x.tmod p) = x % p := by
  have a := Int.emod_nonneg x (show p ≠ 0 by omega)
  have b := Int.emod_lt_of_pos x (show 0 < p by omega)
  have c : x % p ≤ x := by
    have d := Int.mul_ediv_add_emod x p
    have e := Int.mul_nonneg (show 0 ≤ p by omega) (Int.ediv_nonneg h0 (show 0 ≤ p by omega))
    omega
  rw [Int.tmod_eq_emod_of_nonneg h0, IntWalk.i64_in _ ⟨by omega, by omega⟩]

theorem Rd.at1 {α : Type} {w : World} {B n : Nat} {A : Option Addr} {l : List α} {f : α → Value} {k : Nat} (h : Rd w B 1 A n (l.map f)) (hk : k < n) :
    ∃ ad x, A = some ad ∧ ad.block < B ∧ l[k]? = some x ∧ w.cell? (ad.add k) = some (f x) := by
  obtain ⟨ad, e, hb, hc⟩ := h.at_ hk
  obtain ⟨u, hu, hcell⟩ := hc 0 (by omega)
  simp only [Nat.mul_one, Nat.add_zero] at hu hcell
  rw [List.getElem?_map] at hu
  cases hx : l[k]? with
  | none => rw [hx] at hu; cases hu
  | some x =>
    rw [hx] at hu
    simp only [Option.map_some, Option.some.injEq] at hu
    exact ⟨ad, x, e, hb, rfl, by rw [hcell, hu]⟩

/-- a block that was just made, read as a slice of its own -/
theorem Rd.of_blk {w : World} {g : Nat} {t : TypeId} {cs : List Value} (h : Blk w g t cs.toArray) {size n : Nat} (hl : cs.length = n * size) : Rd w w.heap.size size (some ⟨g, 0, none⟩) n cs := by
  refine ⟨hl, fun _ => ⟨_, rfl, h.lt, fun j u hu => ?_⟩⟩
  have hadd : (⟨g, 0, none⟩ : Addr).add j = ⟨g, j, none⟩ := by unfold Addr.add; split <;> simp_all
  rw [hadd, h.cell]
  simpa using hu

end Go.Proofs.YtiebjnibmomcjaaDoor
