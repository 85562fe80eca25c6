/- Texts of this claim, together: Mem, Rep, TopA, TopB, TopC, Law, MapA, StpC, AftA, LayStep, SpnA, SpnC, Slc. -/
import Derived.Test.YtpapiojicbbheaaGreatDoorRows
import Derived.WalkKit
import Derived.WalkSpells
import Derived.WalkLawsBesides
import Derived.Lib.Hide
import Derived.Deep.QuietTactic
import Derived.BigQuiet
import Derived.Maps.AppendAt
import Derived.Deep.AppendLies
import Derived.Deep.Draws
import Derived.Laws.CopyOwn
import Derived.ProofKit
import Derived.Deep.Slices
import Derived.Deep.RegionHeld3
import Derived.StillTailTactics
import Derived.IntWalk
import Derived.Maps.RangeWalk
import Derived.DeepKeys4
import Derived.Shelf.SlSortCmp.WholeK
namespace Go.Proofs.YtpapiojicbbheaaGreatDoor
open Go.RowKit
structure Keep (S : Nat → Prop) (w w' : World) : Prop where
  os : w'.os = w.os
  tape : w'.tape = w.tape
  output : w'.output = w.output
  size : w.heap.size ≤ w'.heap.size
  block : ∀ k, k < w.heap.size → ¬ S k → w'.heap[k]? = w.heap[k]?
def Never (_ : Nat) : Prop := False
namespace Keep
variable {S S' : Nat → Prop} {w a b c w' : World}
theorem refl (S : Nat → Prop) (w : World) : Keep S w w := ⟨rfl, rfl, rfl, Nat.le_refl _, fun _ _ _ => rfl⟩
theorem trans (h : Keep S a b) (k : Keep S b c) : Keep S a c :=
  ⟨k.os.trans h.os, k.tape.trans h.tape, k.output.trans h.output, Nat.le_trans h.size k.size,
   fun i hi hs => (k.block i (Nat.lt_of_lt_of_le hi h.size) hs).trans (h.block i hi hs)⟩
theorem then_ (h : Keep S a b) (k : Keep S' b c) (hs : ∀ i, i < a.heap.size → S' i → S i) : Keep S a c :=
  ⟨k.os.trans h.os, k.tape.trans h.tape, k.output.trans h.output, Nat.le_trans h.size k.size,
   fun i hi hn => (k.block i (Nat.lt_of_lt_of_le hi h.size) (fun e => hn (hs i hi e))).trans (h.block i hi hn)⟩
theorem mono (h : Keep S a b) (hs : ∀ i, i < a.heap.size → S i → S' i) : Keep S' a b :=
  ⟨h.os, h.tape, h.output, h.size, fun i hi hn => h.block i hi (fun e => hn (hs i hi e))⟩
theorem drew (h : Keep S a b) : Keep S a b.drew := ⟨h.os, h.tape, h.output, h.size, h.block⟩
theorem drewN (h : Keep S a b) (n : Nat) : Keep S a (b.drewN n) := ⟨h.os, h.tape, h.output, h.size, h.block⟩
theorem drewL (h : Keep S a.drew b) : Keep S a b := ⟨h.os, h.tape, h.output, h.size, h.block⟩
theorem drewNL {n : Nat} (h : Keep S (a.drewN n) b) : Keep S a b := ⟨h.os, h.tape, h.output, h.size, h.block⟩
theorem alloc (h : Keep S a b) (o : Obj) : Keep S a (b.alloc o) :=
  h.trans ⟨rfl, rfl, rfl, by simp, fun k hk _ => Below.heap_alloc _ _ _ hk⟩
theorem set_ (h : Keep S a b) {p : Addr} (hp : S p.block ∨ a.heap.size ≤ p.block) (u : Value) : Keep S a (b.setCell p u) :=
  h.then_ (S' := fun k => k = p.block) ⟨rfl, rfl, rfl, by simp [World.setCell], fun k _ hk => Below.heap_setCell _ _ _ _ hk⟩
    (fun i hi e => by subst e; rcases hp with hp | hp; exact hp; omega)
theorem below {B : Nat} (h : Keep S a b) (hB : B ≤ a.heap.size) (hs : ∀ k, S k → B ≤ k) : Below B a b :=
  ⟨h.os, h.tape, h.output, h.size, fun k hk => h.block k (by omega) (fun e => by have := hs k e; omega)⟩
theorem cell (h : Keep S a b) {p : Addr} (hp : p.block < a.heap.size) (hn : ¬ S p.block) : b.cell? p = a.cell? p := World.cell?_of_block (h.block p.block hp hn)
theorem frozen (h : Keep S a b) {p : Addr} (hp : p.block < a.heap.size) (hn : ¬ S p.block) : b.frozen? p = a.frozen? p := World.frozen?_of_block (h.block p.block hp hn)
end Keep
theorem cell_lt {w : World} {p : Addr} {u : Value} (h : w.cell? p = some u) : p.block < w.heap.size := World.block_lt_of_cell? w p h
theorem block_add (a : Addr) (n : Nat) : (a.add n).block = a.block := by unfold Addr.add; split <;> rfl
theorem add_add (a : Addr) (i j : Nat) : (a.add i).add j = a.add (i + j) := by
  unfold Addr.add
  by_cases hi : i = 0 <;> by_cases hj : j = 0 <;> simp [hi, hj, Nat.add_assoc]
theorem fld (a : Addr) (i : Nat) {j : Nat} (hj : 0 < j) : a.add (i + j) = ⟨(a.add i).block, (a.add i).off + j, none⟩ := by
  rw [← add_add]
  generalize a.add i = b
  unfold Addr.add
  rw [if_neg (by omega)]
def Rd (w : World) (B size : Nat) (A : Option Addr) (n : Nat) (xs : List Value) : Prop :=
  xs.length = n * size ∧ (0 < n → ∃ ad, A = some ad ∧ ad.block < B ∧ ∀ j u, xs[j]? = some u → w.cell? (ad.add j) = some u)
namespace Rd
variable {w w' : World} {B B' size n : Nat} {A : Option Addr} {xs : List Value}
theorem nil (w : World) (B size : Nat) (A : Option Addr) : Rd w B size A 0 [] := ⟨by simp, fun h => absurd h (by omega)⟩
theorem at_ {k : Nat} (h : Rd w B size A n xs) (hk : k < n) : ∃ ad, A = some ad ∧ ad.block < B ∧ ∀ j, j < size → ∃ u, xs[k * size + j]? = some u ∧ w.cell? (ad.add (k * size + j)) = some u := by
  obtain ⟨ad, e, hb, hc⟩ := h.2 (by omega)
  refine ⟨ad, e, hb, fun j hj => ?_⟩
  have hl : k * size + j < xs.length := by
    rw [h.1]
    have : k * size + size ≤ n * size := by rw [← Nat.succ_mul]; exact Nat.mul_le_mul_right _ hk
    omega
  exact ⟨xs[k * size + j], List.getElem?_eq_getElem hl, hc _ _ (List.getElem?_eq_getElem hl)⟩
theorem keep_ (h : Rd w B size A n xs) (hk : ∀ p : Addr, p.block < B → p.block < w.heap.size → w'.cell? p = w.cell? p) : Rd w' B size A n xs :=
  ⟨h.1, fun hn => by
    obtain ⟨ad, e, hb, hc⟩ := h.2 hn
    refine ⟨ad, e, hb, fun j u hu => ?_⟩
    have h1 := hc j u hu
    rw [hk _ (by rw [block_add]; exact hb) (cell_lt h1)]
    exact h1⟩
theorem more (h : Rd w B size A n xs) (hB : B ≤ B') : Rd w B' size A n xs :=
  ⟨h.1, fun hn => by
    obtain ⟨ad, e, hb, hc⟩ := h.2 hn
    exact ⟨ad, e, by omega, hc⟩⟩
theorem keep {S : Nat → Prop} (h : Rd w B size A n xs) (hb : Keep S w w') (hS : ∀ k, S k → B ≤ k) : Rd w' B size A n xs :=
  h.keep_ fun p h1 h2 => hb.cell h2 (fun e => by have := hS _ e; omega)
theorem keep_far {S : Nat → Prop} (h : Rd w B size A n xs) (hb : Keep S w w') (hS : ∀ ad, A = some ad → 0 < n → ¬ S ad.block) : Rd w' B size A n xs :=
  ⟨h.1, fun hn => by
    obtain ⟨ad, e, hB, hc⟩ := h.2 hn
    refine ⟨ad, e, hB, fun j u hu => ?_⟩
    have h1 := hc j u hu
    rw [hb.cell (cell_lt h1) (by rw [block_add]; exact hS ad e hn)]
    exact h1⟩
theorem drew (h : Rd w B size A n xs) : Rd w.drew B size A n xs := h
theorem drewN (h : Rd w B size A n xs) (k : Nat) : Rd (w.drewN k) B size A n xs := h
theorem alloc (h : Rd w B size A n xs) (o : Obj) : Rd (w.alloc o) B size A n xs := h.keep_ fun p _ hp => World.cell?_alloc_lt w o p hp
theorem set_ (h : Rd w B size A n xs) {p : Addr} (hB : B ≤ p.block) (u : Value) : Rd (w.setCell p u) B size A n xs :=
  h.keep_ fun q hq _ => World.cell?_setCell_other w p q u (fun e => by subst e; omega)
theorem cut (h : Rd w B size A n xs) {k cap : Nat} (hk : k ≤ n) (hc : n ≤ cap) :
    Rd w B size (if cap = k then A else A.map (·.add (k * size))) (n - k) (xs.drop (k * size)) := by
  refine ⟨by rw [List.length_drop, h.1, Nat.sub_mul], fun hn => ?_⟩
  obtain ⟨ad, rfl, hb, hcell⟩ := h.2 (by omega)
  rw [if_neg (by omega)]
  refine ⟨ad.add (k * size), rfl, by rw [block_add]; exact hb, fun j u hu => ?_⟩
  rw [add_add]
  exact hcell _ u (by rw [← hu, List.getElem?_drop])
end Rd
def Blk (w : World) (g : Nat) (t : TypeId) (cs : Array Value) : Prop := w.heap[g]? = some (.cells cs t (0, 0))
namespace Blk
variable {w w' : World} {g : Nat} {t : TypeId} {cs : Array Value}
theorem lt (h : Blk w g t cs) : g < w.heap.size := by
  rcases Nat.lt_or_ge g w.heap.size with hlt | hge
  · exact hlt
  · unfold Blk at h; rw [Array.getElem?_eq_none hge] at h; cases h
theorem cell (h : Blk w g t cs) (i : Nat) : w.cell? ⟨g, i, none⟩ = cs[i]? := cell_of_row w g i cs t (0, 0) h
theorem frozen (h : Blk w g t cs) (i : Nat) : w.frozen? ⟨g, i, none⟩ = false := by unfold Blk at h; simp [World.frozen?, h]
theorem new (w : World) (t : TypeId) (cs : Array Value) : Blk (w.alloc (.cells cs t)) w.heap.size t cs := heap_alloc_new w _
theorem drew (h : Blk w g t cs) : Blk w.drew g t cs := h
theorem drewN (h : Blk w g t cs) (n : Nat) : Blk (w.drewN n) g t cs := h
theorem alloc (h : Blk w g t cs) (o : Obj) : Blk (w.alloc o) g t cs := (Below.heap_alloc w o g h.lt).trans h
theorem set_ (h : Blk w g t cs) (i : Nat) (u : Value) : Blk (w.setCell ⟨g, i, none⟩ u) g t (cs.setIfInBounds i u) := by
  unfold Blk at h ⊢
  simp [World.setCell, Array.getElem?_modify, h]
theorem far (h : Blk w g t cs) {p : Addr} (hp : g ≠ p.block) (u : Value) : Blk (w.setCell p u) g t cs := (Below.heap_setCell w p u g hp).trans h
theorem keep {S : Nat → Prop} (h : Blk w g t cs) (hb : Keep S w w') (hS : ¬ S g) : Blk w' g t cs := (hb.block g h.lt hS).trans h
theorem ne_ {g' : Nat} {t' : TypeId} {cs' : Array Value} (h : Blk w g t cs) (h' : Blk w g' t' cs') (hne : t ≠ t') : g ≠ g' := by
  rintro rfl
  unfold Blk at h h'
  rw [h] at h'
  injection h' with h'
  injection h' with _ ht
  exact hne ht
end Blk
def Own (w : World) (base : Nat) (e : TypeId) (size : Nat) (A : Option Addr) (n c : Nat) (xs : List Value) : Prop := w.ownsRow base e size (.slice A n c) n xs
def InRow (A : Option Addr) (k : Nat) : Prop := ∃ ad, A = some ad ∧ ad.block = k
namespace Own
variable {w w' : World} {base e size n c : Nat} {A : Option Addr} {xs : List Value}
theorem nil (w : World) (base e size : Nat) : Own w base e size none 0 0 [] := World.ownsRow_nil w base e size
theorem len (h : Own w base e size A n c xs) : xs.length = n * size := h.1
theorem row (h : Own w base e size A n c xs) {k : Nat} (hk : InRow A k) : base ≤ k ∧ k < w.heap.size := by
  obtain ⟨ad, rfl, rfl⟩ := hk
  exact h.lt _ rfl
theorem form (h : Own w base e size A n c xs) : (A = none ∧ n = 0 ∧ c = 0 ∧ xs = []) ∨ ∃ g cur, A = some ⟨g, 0, none⟩ ∧ base ≤ g ∧ Blk w g e cur ∧ n ≤ c ∧ c ≤ maxLen ∧ cur.size = c * size ∧ cur.toList.take (n * size) = xs := by
  rcases h.2 with ⟨h1, h2⟩ | ⟨g, cap, cur, h1, h2, h3, h4, h5, h6, h7⟩
  · injection h1 with a b d
    subst h2
    exact .inl ⟨a, rfl, d, List.eq_nil_of_length_eq_zero (by simpa using h.1)⟩
  · injection h1 with a b d
    subst d
    exact .inr ⟨g, cur, a, h2, h3, h4, h5, h6, h7⟩
theorem rd (h : Own w base e size A n c xs) : Rd w w.heap.size size A n xs := by
  refine ⟨h.1, fun hn => ?_⟩
  rcases h.form with ⟨rfl, rfl, _⟩ | ⟨g, cur, rfl, _, hb, _⟩
  · omega
  · exact ⟨_, rfl, hb.lt, World.ownsRow.cells h (g := g) rfl⟩
theorem cap_le (h : Own w base e size A n c xs) : n ≤ c := by
  rcases h.form with ⟨rfl, rfl, rfl, rfl⟩ | ⟨g, cur, rfl, _, hb, hn, _⟩
  · omega
  · exact hn
theorem drew (h : Own w base e size A n c xs) : Own w.drew base e size A n c xs := h
theorem drewN (h : Own w base e size A n c xs) (k : Nat) : Own (w.drewN k) base e size A n c xs := h
theorem alloc (h : Own w base e size A n c xs) (o : Obj) : Own (w.alloc o) base e size A n c xs := World.ownsRow.alloc h o
theorem keep {S : Nat → Prop} (h : Own w base e size A n c xs) (hb : Keep S w w') (hS : ∀ k, InRow A k → ¬ S k) : Own w' base e size A n c xs := by
  refine ⟨h.1, ?_⟩
  rcases h.2 with hn | ⟨g, cap, cur, hv, hbg, hh, r⟩
  · exact .inl hn
  · injection hv with h1 h2 h3
    subst h1
    exact .inr ⟨g, cap, cur, by rw [h3], hbg, by rw [hb.block g (Array.getElem?_eq_some_iff.1 hh).1 (hS g ⟨_, rfl, rfl⟩)]; exact hh, r⟩
theorem less (h : Own w base e size A n c xs) {b : Nat} (hb : b ≤ base) : Own w b e size A n c xs := by
  refine ⟨h.1, ?_⟩
  rcases h.2 with hn | ⟨g, cap, cur, hv, hbg, r⟩
  · exact .inl hn
  · exact .inr ⟨g, cap, cur, hv, by omega, r⟩
theorem far (h : Own w base e size A n c xs) {p : Addr} (hp : ∀ k, InRow A k → k ≠ p.block) (u : Value) : Own (w.setCell p u) base e size A n c xs :=
  h.keep (S := fun k => k = p.block) ⟨rfl, rfl, rfl, by simp [World.setCell], fun k _ hk => Below.heap_setCell _ _ _ _ hk⟩ (fun k hk e => hp k hk e)
theorem ne_blk (h : Own w base e size A n c xs) {g : Nat} {t : TypeId} {cs : Array Value} (hg : Blk w g t cs) (hne : e ≠ t) : ∀ k, InRow A k → k ≠ g := by
  rintro k ⟨ad, rfl, rfl⟩
  rcases h.form with ⟨h1, _⟩ | ⟨g', cur, h1, _, hb, _⟩
  · cases h1
  · injection h1 with h1
    subst h1
    exact Blk.ne_ hb hg hne
theorem ne_own (h : Own w base e size A n c xs) {base' e' size' n' c' : Nat} {A' : Option Addr} {xs' : List Value} (h' : Own w base' e' size' A' n' c' xs') (hne : e ≠ e') : ∀ k, InRow A k → ¬ InRow A' k := by
  rintro k hk ⟨ad, rfl, rfl⟩
  rcases h'.form with ⟨h1, _⟩ | ⟨g', cur, h1, _, hb, _⟩
  · cases h1
  · injection h1 with h1
    subst h1
    exact h.ne_blk hb hne _ hk rfl
theorem stored (h : Own w base e size A n c xs) {ad : Addr} (hA : A = some ad) (j : Nat) (u : Value) : Own (w.setCell (ad.add j) u) base e size A n c (xs.set j u) := by
  subst hA
  rcases h.form with ⟨h1, _⟩ | ⟨g', cur, h1, _, hb, _⟩
  · cases h1
  · injection h1 with h1
    subst h1
    have hadd : (⟨g', 0, none⟩ : Addr).add j = ⟨g', j, none⟩ := by unfold Addr.add; split <;> simp_all
    rw [hadd]
    exact (World.ownsRow.stored h j u).1
theorem frozen (h : Own w base e size A n c xs) {ad : Addr} (hA : A = some ad) (j : Nat) : w.frozen? (ad.add j) = false := by
  subst hA
  rcases h.form with ⟨h1, _⟩ | ⟨g', cur, h1, hg, hb, _⟩
  · cases h1
  · injection h1 with h1
    subst h1
    have hadd : (⟨g', 0, none⟩ : Addr).add j = ⟨g', j, none⟩ := by unfold Addr.add; split <;> simp_all
    rw [hadd]
    exact hb.frozen j
theorem lit (w : World) (e : TypeId) (cs : Array Value) (n size : Nat) (hm : n ≤ maxLen) (hs : cs.size = n * size) :
    Own (w.alloc (.cells cs e)) w.heap.size e size (some ⟨w.heap.size, 0, none⟩) n n cs.toList := World.ownsRow_lit w cs n (Nat.le_refl _) hm hs
end Own
structure Elem (P : Program) (t e size bytes : Nat) : Prop where
  ht : P.underlying t = some (.slice e)
  hi : ∃ i z, P.info? e = some i ∧ i.zero = some z ∧ i.size = size ∧ i.bytes = bytes ∧ z.cells.size = size ∧ 0 < size
section
variable {P : Program} (w : World)
theorem run_append_of_nil (base t ty e : TypeId) (i : TypeInfo) (size : Nat) (ht : P.underlying t = some (.slice e)) (hi : P.info? e = some i)
    {A : Option Addr} {n c : Nat} {xs : List Value} (hown : Own w base e size A n c xs) (c' : Nat) : (Builtin.append_ #[t, t] ty #[.slice A n c, .slice none 0 c']).run P w = .ok (.slice A n c) w := by
  rcases hown.form with ⟨rfl, rfl, rfl, rfl⟩ | ⟨g, cur, rfl, _, _, hnc, _⟩
  · simp [Builtin.append_, run_underlying ht, sizeOf, typeInfo, hi, Builtin.lenOf, Builtin.firstCells]
  · simp [Builtin.append_, run_underlying ht, sizeOf, typeInfo, hi, Builtin.lenOf, Builtin.firstCells, hnc, storeCells]
theorem run_app {t e size bytes : Nat} (hE : Elem P t e size bytes) (ty base : TypeId) {A : Option Addr} {n c : Nat} {xs : List Value} (hown : Own w base e size A n c xs)
    {B : Nat} {A' : Option Addr} {m c' : Nat} {news : List Value} (hr : Rd w B size A' m news) (h1 : ∀ u ∈ news, u.oneCell' = true)
    (hbytes : (n + m) * bytes ≤ 140737488355328) (h63 : n + m ≤ maxLen) (hbase : base ≤ w.heap.size) :
    ∃ A2 c2 w2, (Builtin.append_ #[t, t] ty #[.slice A n c, .slice A' m c']).run P w = .ok (.slice A2 (n + m) c2) w2 ∧ Own w2 base e size A2 (n + m) c2 (xs ++ news) ∧ Keep (InRow A) w w2 ∧
      (∀ k, InRow A2 k → InRow A k ∨ k = w.heap.size) := by
  obtain ⟨i, z, hi, hz, hsize, hby, hzs, hsz⟩ := hE.hi
  by_cases hm : m = 0
  · subst hm
    have hn : news = [] := List.eq_nil_of_length_eq_zero (by simpa using hr.1)
    subst hn
    rcases A' with _ | ad
    · exact ⟨A, c, w, run_append_of_nil w base t ty e i size hE.ht hi hown c', by simpa using hown, Keep.refl _ _, fun k hk => .inl hk⟩
    · obtain ⟨v', w', hrun, h2, h3, _, h5⟩ := run_append_own_at (P := P) w base t ty e i z size bytes hE.ht hi hz hsize hby hzs hsz _ n xs hown ad 0 c' [] (by simp) (by simp) (by simp) h63 hbytes hbase
      have hf : ∃ A2 c2, v' = .slice A2 (n + 0) c2 := by
        rcases h2.2 with ⟨hv, hn⟩ | ⟨g, cap, _, hv, _⟩
        · rw [hn]; exact ⟨_, _, hv⟩
        · exact ⟨_, _, hv⟩
      obtain ⟨A2, c2, rfl⟩ := hf
      refine ⟨A2, c2, w', hrun, h2, ⟨h3.os, h3.tape, h3.output, h3.size, fun k hk hn => h3.block k hk (fun e => hn ?_)⟩, fun k hk => ?_⟩
      · rcases A with _ | ad' <;> simp [Value.ownBlock] at e
        exact ⟨ad', rfl, e.symm⟩
      · obtain ⟨ad2, rfl, rfl⟩ := hk
        rcases h5 with h5 | h5
        · rcases A with _ | ad' <;> simp [Value.ownBlock] at h5
          exact .inl ⟨ad', rfl, h5.symm⟩
        · right; simpa [Value.ownBlock] using h5
  · obtain ⟨ad, rfl, _, hcells⟩ := hr.2 (by omega)
    obtain ⟨v', w', hrun, h2, h3, _, h5⟩ := run_append_own_at (P := P) w base t ty e i z size bytes hE.ht hi hz hsize hby hzs hsz _ n xs hown ad m c' news hr.1 hcells h1 h63 hbytes hbase
    have hf : ∃ A2 c2, v' = .slice A2 (n + m) c2 := by
      rcases h2.2 with ⟨hv, hn⟩ | ⟨g, cap, _, hv, _⟩
      · omega
      · exact ⟨_, _, hv⟩
    obtain ⟨A2, c2, rfl⟩ := hf
    refine ⟨A2, c2, w', hrun, h2, ⟨h3.os, h3.tape, h3.output, h3.size, fun k hk hn => h3.block k hk (fun e => hn ?_)⟩, fun k hk => ?_⟩
    · rcases A with _ | ad' <;> simp [Value.ownBlock] at e
      exact ⟨ad', rfl, e.symm⟩
    · obtain ⟨ad2, rfl, rfl⟩ := hk
      rcases h5 with h5 | h5
      · rcases A with _ | ad' <;> simp [Value.ownBlock] at h5
        exact .inl ⟨ad', rfl, h5.symm⟩
      · right; simpa [Value.ownBlock] using h5
theorem wp_app {o : Oper} {a : Act} {K : Act → World → Prop} {Q : Exit → Act → World → Prop} (s x : Operand) (t : TypeId)
    (ho : o.op = .call { callee := .builtin .append, args := #[s, x], argTypes := #[t, t] })
    {e size bytes : Nat} (hE : Elem P t e size bytes) (base : Nat) {A : Option Addr} {n c : Nat} {xs : List Value} (hs : a.eval s = .slice A n c) (hown : Own w base e size A n c xs)
    (B : Nat) {A' : Option Addr} {m c' : Nat} {news : List Value} (hx : a.eval x = .slice A' m c') (hr : Rd w B size A' m news) (h1 : ∀ u ∈ news, u.oneCell' = true)
    (hbytes : (n + m) * bytes ≤ 140737488355328) (h63 : n + m ≤ maxLen) (hbase : base ≤ w.heap.size)
    (h : ∀ A2 c2 w2, Own w2 base e size A2 (n + m) c2 (xs ++ news) → Keep (InRow A) w w2 → Hid (∀ k, InRow A2 k → InRow A k ∨ k = w.heap.size) → K (a.put o.dst (.slice A2 (n + m) c2)) w2) : o.wp P a w K Q := by
  obtain ⟨A2, c2, w2, hrun, h2, h3, h4⟩ := run_app (P := P) w hE o.type base hown hr h1 hbytes h63 hbase (c' := c')
  unfold Oper.wp execOp
  simp only [ho, resolve, invoke, builtin, Sem.run_bind, Sem.run_pure, Result.andThen_ok, List.map_toArray, List.map_cons, List.map_nil, hs, hx, hrun]
  exact h A2 c2 w2 h2 h3 h4
theorem wpList_app {ops : Array Oper} {rest : List Oper} {o : Oper} {a : Act} {Q : Exit → Act → World → Prop} (hgd : o.guard = none) (s x : Operand) (t : TypeId)
    (ho : o.op = .call { callee := .builtin .append, args := #[s, x], argTypes := #[t, t] })
    {e size bytes : Nat} (hE : Elem P t e size bytes) (base : Nat) {A : Option Addr} {n c : Nat} {xs : List Value} (hs : a.eval s = .slice A n c) (hown : Own w base e size A n c xs)
    (B : Nat) {A' : Option Addr} {m c' : Nat} {news : List Value} (hx : a.eval x = .slice A' m c') (hr : Rd w B size A' m news) (h1 : ∀ u ∈ news, u.oneCell' = true)
    (hbytes : (n + m) * bytes ≤ 140737488355328) (h63 : n + m ≤ maxLen) (hbase : base ≤ w.heap.size)
    (h : ∀ A2 c2 w2, Own w2 base e size A2 (n + m) c2 (xs ++ news) → Keep (InRow A) w w2 → Hid (∀ k, InRow A2 k → InRow A k ∨ k = w.heap.size) → wpList P ops Q rest (a.put o.dst (.slice A2 (n + m) c2)) w2) : wpList P ops Q (o :: rest) a w :=
  wpList_plain hgd fun _ hK => wp_app w s x t ho hE base hs hown B hx hr h1 hbytes h63 hbase fun A2 c2 w2 h2 h3 h4 => hK _ _ (h A2 c2 w2 h2 h3 h4)
theorem step_app {ops : Array Oper} {o : Oper} {a : Act} {K : Act → World → Prop} {Q : Exit → Act → World → Prop} {E : Prop} (hgd : o.guard = none) (s x : Operand) (t : TypeId)
    (ho : o.op = .call { callee := .builtin .append, args := #[s, x], argTypes := #[t, t] })
    {e size bytes : Nat} (hE : Elem P t e size bytes) (base : Nat) {A : Option Addr} {n c : Nat} {xs : List Value} (hs : a.eval s = .slice A n c) (hown : Own w base e size A n c xs)
    (B : Nat) {A' : Option Addr} {m c' : Nat} {news : List Value} (hx : a.eval x = .slice A' m c') (hr : Rd w B size A' m news) (h1 : ∀ u ∈ news, u.oneCell' = true)
    (hbytes : (n + m) * bytes ≤ 140737488355328) (h63 : n + m ≤ maxLen) (hbase : base ≤ w.heap.size)
    (h : ∀ A2 c2 w2, Own w2 base e size A2 (n + m) c2 (xs ++ news) → Keep (InRow A) w w2 → Hid (∀ k, InRow A2 k → InRow A k ∨ k = w.heap.size) → K (a.put o.dst (.slice A2 (n + m) c2)) w2) :
    if Region.wanted o (yielded ops a.tmps) = true then Oper.wp P o a w K Q else E := by
  have hw : Region.wanted o (yielded ops a.tmps) = true := by simp [Region.wanted, hgd]
  rw [if_pos hw]
  exact wp_app w s x t ho hE base hs hown B hx hr h1 hbytes h63 hbase h
end
theorem wrap_tdiv {x p : Int} (h0 : 0 ≤ x) (h1 : 1 ≤ p) (h2 : x ≤ 9223372036854775807) : IntKind.i64.wrap (x.tdiv p) = x / p := by
  have a := Int.ediv_nonneg h0 (show 0 ≤ p by omega)
  have b := Int.ediv_le_self p h0
  rw [Int.tdiv_eq_ediv_of_nonneg h0, IntWalk.i64_in _ ⟨by omega, by omega⟩]
theorem Rd.at1 {α : Type} {w : World} {B n : Nat} {A : Option Addr} {l : List α} {f : α → Value} {k : Nat} (h : Rd w B 1 A n (l.map f)) (hk : k < n) :
    ∃ ad x, A = some ad ∧ ad.block < B ∧ l[k]? = some x ∧ w.cell? (ad.add k) = some (f x) := by
  obtain ⟨ad, e, hb, hc⟩ := h.at_ hk
  obtain ⟨u, hu, hcell⟩ := hc 0 (by omega)
  simp only [Nat.mul_one, Nat.add_zero] at hu hcell
  rw [List.getElem?_map] at hu
  cases hx : l[k]? with
  | none => rw [hx] at hu; cases hu
  | some x =>
    rw [hx] at hu
    simp only [Option.map_some, Option.some.injEq] at hu
    exact ⟨ad, x, e, hb, rfl, by rw [hcell, hu]⟩
theorem Rd.of_blk {w : World} {g : Nat} {t : TypeId} {cs : List Value} (h : Blk w g t cs.toArray) {size n : Nat} (hl : cs.length = n * size) : Rd w w.heap.size size (some ⟨g, 0, none⟩) n cs := by
  refine ⟨hl, fun _ => ⟨_, rfl, h.lt, fun j u hu => ?_⟩⟩
  have hadd : (⟨g, 0, none⟩ : Addr).add j = ⟨g, j, none⟩ := by unfold Addr.add; split <;> simp_all
  rw [hadd, h.cell]
  simpa using hu
theorem qh {p : Prop} (h : p) : Hid p := Lib.hid h
theorem qkb {w w' : World} {g : Nat} {t : TypeId} {cs : Array Value} (h : Hid (Blk w g t cs)) (hk : Keep Never w w') : Hid (Blk w' g t cs) := Lib.hid (h.out.keep hk (fun h => h))
theorem qko {w w' : World} {base e size n c : Nat} {A : Option Addr} {xs : List Value} (h : Hid (Own w base e size A n c xs)) (hk : Keep Never w w') : Hid (Own w' base e size A n c xs) := Lib.hid (h.out.keep hk (fun _ _ h => h))
theorem qtr {S : Nat → Prop} {w a b : World} (h : Hid (Keep S w a)) (hk : Keep S a b) : Hid (Keep S w b) := Lib.hid (h.out.trans hk)
theorem qt {P : Program} {md : Region.Mode} {ops : Array Oper} {Q : Exit → Act → World → Prop} {S : World → Prop} {i : Nat} {oi : Oper} {v : Value} {fuel : Nat} {listed : Array Bool} {a : Act} {w : World} (hi : ops[i]? = some oi) (hy : YieldsIf P ops S oi v a) (h : wpAnyH P md ops Q S fuel (listed.setIfInBounds i true) (a.put oi.dst v) w) (hs : Region.noSelect ops = true := by kernel_rfl) (hf : Region.free md ops listed i = true := by kernel_rfl) (hr : (Region.ready md ops listed).contains i = true := by kernel_rfl) (hQ : ∀ c a w, Q (.panic c) (a.put oi.dst v) w → Q (.panic c) a w := by exact fun _ _ _ h => h) (hS : S w := by assumption) : wpAnyH P md ops Q S (fuel + 1) listed a w := wpAnyH_take hi hs hf hr hQ hy hS h
theorem qz {α : Type} : (∀ (l : List α) (i : Nat), l.toArray[i]? = l[i]?) ∧ (∀ (a : α) (l : List α) (i : Nat), (a :: l)[i + 1]? = l[i]?) ∧ (∀ (a : α) (l : List α), (a :: l)[0]? = some a) := ⟨fun _ _ => List.getElem?_toArray .., fun _ _ _ => List.getElem?_cons_succ .., fun _ _ => List.getElem?_cons_zero ..⟩
theorem qy : (∀ (d : List Deferred) (t : Array Value) (i : Nat) (v : Value), Act.put ⟨t, d⟩ (some i) v = ⟨t.setIfInBounds i v, d⟩) ∧ (∀ (a : Act) (v : Value), a.put none v = a) ∧ (∀ {α : Type} (l : List α) (i : Nat) (a : α), l.toArray.setIfInBounds i a = (l.set i a).toArray) ∧ (∀ {α : Type} (x a : α) (l : List α), (x :: l).set 0 a = a :: l) ∧ (∀ {α : Type} (x a : α) (l : List α) (i : Nat), (x :: l).set (i + 1) a = x :: l.set i a) := ⟨fun _ _ _ _ => rfl, fun _ _ => rfl, fun _ _ _ => List.setIfInBounds_toArray .., fun _ _ _ => List.set_cons_zero .., fun _ _ _ _ => List.set_cons_succ ..⟩
theorem qT {P : Program} {md : Region.Mode} {ops : Array Oper} {Q : Exit → Act → World → Prop} {S : World → Prop} {oi : Oper} {v : Value} {fuel : Nat} {listed : Array Bool} {a : Act} {w : World} (i : Nat) (h : wpAnyH P md ops Q S fuel (listed.setIfInBounds i true) (a.put oi.dst v) w) (hi : ops[i]? = some oi := by simp only [qz]; rfl) (hw : Region.wanted oi (yielded ops a.tmps) = true := by rfl) (hv : ∀ w, S w → (execOp a.eval oi).run P w = .ok (.value v) w := by intro w hSw; (try dsimp only at hSw); go_simp; (try with_reducible rfl)) (hs : Region.noSelect ops = true := by kernel_rfl) (hf : Region.free md ops listed i = true := by kernel_rfl) (hr : (Region.ready md ops listed).contains i = true := by kernel_rfl) (hQ : ∀ c a w, Q (.panic c) (a.put oi.dst v) w → Q (.panic c) a w := by exact fun _ _ _ h => h) (hS : S w := by assumption) : wpAnyH P md ops Q S (fuel + 1) listed a w := wpAnyH_take hi hs hf hr hQ (Or.inl ⟨hw, hv⟩) hS h
theorem qU {P : Program} {md : Region.Mode} {ops : Array Oper} {Q : Exit → Act → World → Prop} {S : World → Prop} {oi : Oper} {fuel : Nat} {listed : Array Bool} {a : Act} {w : World} (i : Nat) (h : wpAnyH P md ops Q S fuel (listed.setIfInBounds i true) (a.put oi.dst undef) w) (hi : ops[i]? = some oi := by simp only [qz]; rfl) (hw : Region.wanted oi (yielded ops a.tmps) = false := by rfl) (hs : Region.noSelect ops = true := by kernel_rfl) (hf : Region.free md ops listed i = true := by kernel_rfl) (hr : (Region.ready md ops listed).contains i = true := by kernel_rfl) (hQ : ∀ c a w, Q (.panic c) (a.put oi.dst undef) w → Q (.panic c) a w := by exact fun _ _ _ h => h) (hS : S w := by assumption) : wpAnyH P md ops Q S (fuel + 1) listed a w := wpAnyH_take hi hs hf hr hQ (Or.inr ⟨hw, rfl⟩) hS h
theorem bc2 {w : World} {g : Nat} {t : TypeId} {a b : Value} {r : List Value} (h : Blk w g t (a :: b :: r).toArray) : w.cell? ⟨g, 0, none⟩ = some a ∧ w.cell? ⟨g, 1, none⟩ = some b := ⟨h.cell 0, h.cell 1⟩
theorem bc3 {w : World} {g : Nat} {t : TypeId} {a b c : Value} {r : List Value} (h : Blk w g t (a :: b :: c :: r).toArray) : w.cell? ⟨g, 0, none⟩ = some a ∧ w.cell? ⟨g, 1, none⟩ = some b ∧ w.cell? ⟨g, 2, none⟩ = some c := ⟨h.cell 0, h.cell 1, h.cell 2⟩
theorem bc4 {w : World} {g : Nat} {t : TypeId} {a b c d : Value} {r : List Value} (h : Blk w g t (a :: b :: c :: d :: r).toArray) : w.cell? ⟨g, 0, none⟩ = some a ∧ w.cell? ⟨g, 1, none⟩ = some b ∧ w.cell? ⟨g, 2, none⟩ = some c ∧ w.cell? ⟨g, 3, none⟩ = some d := ⟨h.cell 0, h.cell 1, h.cell 2, h.cell 3⟩
theorem bc5 {w : World} {g : Nat} {t : TypeId} {a b c d e : Value} {r : List Value} (h : Blk w g t (a :: b :: c :: d :: e :: r).toArray) : w.cell? ⟨g, 0, none⟩ = some a ∧ w.cell? ⟨g, 1, none⟩ = some b ∧ w.cell? ⟨g, 2, none⟩ = some c ∧ w.cell? ⟨g, 3, none⟩ = some d ∧ w.cell? ⟨g, 4, none⟩ = some e := ⟨h.cell 0, h.cell 1, h.cell 2, h.cell 3, h.cell 4⟩
end Go.Proofs.YtpapiojicbbheaaGreatDoor

namespace Go.Proofs.YtpapiojicbbheaaGreatDoor
open Go.RowKit Go.ChangeShapes Go.WideShapes
def All2 {α β:Type} (R:α→β→Prop):List α→List β→Prop
  | [],[]=>True
  | a::l,b::m=>R a b∧All2 R l m
  | _,_=>False
namespace All2
variable {α β:Type}{R R':α→β→Prop}{l l':List α}{m m':List β}
theorem len (h:All2 R l m):l.length=m.length:=by
 induction l generalizing m with
 | nil=>cases m with
   | nil=>rfl
   | cons b m=>exact h.elim
 | cons a l ih=>cases m with
   | nil=>exact h.elim
   | cons b m=>simp[ih h.2]
theorem imp (h:All2 R l m) (hR:∀a b,R a b→R' a b):All2 R' l m:=by
 induction l generalizing m with
 | nil=>cases m with
   | nil=>trivial
   | cons b m=>exact h.elim
 | cons a l ih=>cases m with
   | nil=>exact h.elim
   | cons b m=>exact⟨hR _ _ h.1,ih h.2⟩
theorem app (h:All2 R l m) (h':All2 R l' m'):All2 R (l++l') (m++m'):=by
 induction l generalizing m with
 | nil=>cases m with
   | nil=>exact h'
   | cons b m=>exact h.elim
 | cons a l ih=>cases m with
   | nil=>exact h.elim
   | cons b m=>exact⟨h.1,ih h.2⟩
theorem at_ (h:All2 R l m) {i:Nat}{a:α} (hi:l[i]?=some a):∃b,m[i]?=some b∧R a b:=by
 induction l generalizing m i with
 | nil=>simp at hi
 | cons x l ih=>cases m with
   | nil=>exact h.elim
   | cons b m=>cases i with
     | zero=>simp only[List.getElem?_cons_zero,Option.some.injEq] at hi;subst hi;exact⟨b,rfl,h.1⟩
     | succ i=>simp only[List.getElem?_cons_succ] at hi ⊢;exact ih h.2 hi
theorem take_ (h:All2 R l m) (k:Nat):All2 R (l.take k) (m.take k):=by
 induction k generalizing l m with
 | zero=>simp only[List.take_zero];trivial
 | succ k ih=>
  cases l with
  | nil=>cases m with
    | nil=>simp only[List.take_nil];trivial
    | cons b m=>exact h.elim
  | cons a l=>cases m with
    | nil=>exact h.elim
    | cons b m=>exact⟨h.1,ih h.2⟩
theorem of_range {n:Nat} (f:Nat→β) (g:Nat→α) (h:∀i,i<n→R (g i) (f i)):All2 R ((List.range n).map g) ((List.range n).map f):=by
 induction n with
 | zero=>trivial
 | succ n ih=>
  rw[List.range_succ,List.map_append,List.map_append]
  exact(ih fun i hi=>h i (by omega)).app ⟨h n (by omega),trivial⟩
end All2
structure Rep (α:Type) where
  size:Nat
  cells:World→Nat→α→List Value→Prop
  len:∀{w B a cs},cells w B a cs→cs.length=size
  one:∀{w B a cs},cells w B a cs→∀u∈cs,u.oneCell'=true
  keep_:∀{w w' B a cs},cells w B a cs→(∀p:Addr,p.block<B→p.block<w.heap.size→w'.cell? p=w.cell? p)→cells w' B a cs
  more:∀{w B B' a cs},cells w B a cs→B≤B'→cells w B' a cs
namespace Rep
variable {α β:Type}
theorem keep (r:Rep α) {w w':World}{B:Nat}{a:α}{cs:List Value}{S:Nat→Prop} (h:r.cells w B a cs) (hk:Keep S w w') (hS:∀k,S k→B≤k):r.cells w' B a cs:=
  r.keep_ h fun p h1 h2=>hk.cell h2 (fun e=>by have:=hS _ e;omega)
def int:Rep Int where
  size:=1
  cells _ _ n cs:=cs=[.int .i64 n]∧-9223372036854775808≤n∧n≤9223372036854775807
  len h:=by rw[h.1];rfl
  one h u hu:=by rw[h.1] at hu;simp at hu;subst hu;rfl
  keep_ h _:=h
  more h _:=h
def bool:Rep Bool where
  size:=1
  cells _ _ b cs:=cs=[.bool b]
  len h:=by rw[h];rfl
  one h u hu:=by rw[h] at hu;simp at hu;subst hu;rfl
  keep_ h _:=h
  more h _:=h
def pair (r:Rep α) (s:Rep β):Rep (α×β) where
  size:=r.size+s.size
  cells w B x cs:=∃c d,cs=c++d∧r.cells w B x.1 c∧s.cells w B x.2 d
  len:=by rintro w B a cs ⟨c,d,rfl,h1,h2⟩;rw[List.length_append,r.len h1,s.len h2]
  one:=by
   rintro w B a cs ⟨c,d,rfl,h1,h2⟩ u hu
   rcases List.mem_append.1 hu with h | h
   ·exact r.one h1 u h
   ·exact s.one h2 u h
  keep_:=by rintro w w' B a cs ⟨c,d,rfl,h1,h2⟩ hk;exact⟨c,d,rfl,r.keep_ h1 hk,s.keep_ h2 hk⟩
  more:=by rintro w B B' a cs ⟨c,d,rfl,h1,h2⟩ hk;exact⟨c,d,rfl,r.more h1 hk,s.more h2 hk⟩
def Sl (r:Rep α) (w:World) (B:Nat) (A:Option Addr) (n c:Nat) (l:List α):Prop:=
  n=l.length∧n≤c∧c≤maxLen∧(A=none→c=0)∧∃css:List (List Value),Rd w B r.size A n css.flatten∧All2 (r.cells w B) l css
def list (r:Rep α):Rep (List α) where
  size:=1
  cells w B l cs:=∃A n c,cs=[.slice A n c]∧r.Sl w B A n c l
  len:=by rintro w B a cs ⟨A,n,c,rfl,_⟩;rfl
  one:=by rintro w B a cs ⟨A,n,c,rfl,_⟩ u hu;simp at hu;subst hu;rfl
  keep_:=by
   rintro w w' B a cs ⟨A,n,c,rfl,h1,h2,h3,h4,css,h5,h6⟩ hk
   exact⟨A,n,c,rfl,h1,h2,h3,h4,css,h5.keep_ hk,h6.imp fun x y h=>r.keep_ h hk⟩
  more:=by
   rintro w B B' a cs ⟨A,n,c,rfl,h1,h2,h3,h4,css,h5,h6⟩ hk
   exact⟨A,n,c,rfl,h1,h2,h3,h4,css,h5.more hk,h6.imp fun x y h=>r.more h hk⟩
theorem flat_len {r:Rep α}{w:World}{B:Nat}:∀{l:List α}{css:List (List Value)},All2 (r.cells w B) l css→css.flatten.length=l.length*r.size:=by
 intro l
 induction l with
 | nil=>
  intro css h
  cases css with
  | nil=>simp
  | cons c css=>exact h.elim
 | cons a l ih=>
  intro css h
  cases css with
  | nil=>exact h.elim
  | cons c css=>
   rw[List.flatten_cons,List.length_append,r.len h.1,ih h.2,List.length_cons,Nat.succ_mul];omega
theorem flat_at {r:Rep α}{w:World}{B:Nat}:∀{l:List α}{css:List (List Value)}{i j:Nat}{cs:List Value},All2 (r.cells w B) l css→css[i]?=some cs→j<r.size→css.flatten[i*r.size+j]?=cs[j]?:=by
 intro l
 induction l with
 | nil=>
  intro css i j cs h hi
  cases css with
  | nil=>simp at hi
  | cons c css=>exact h.elim
 | cons a l ih=>
  intro css i j cs h hi hj
  cases css with
  | nil=>exact h.elim
  | cons c css=>
   have hc:=r.len h.1
   cases i with
   | zero=>
    simp only[List.getElem?_cons_zero,Option.some.injEq] at hi
    subst hi
    rw[List.flatten_cons,Nat.zero_mul,Nat.zero_add,List.getElem?_append_left (by omega)]
   | succ i=>
    rw[List.getElem?_cons_succ] at hi
    rw[List.flatten_cons,List.getElem?_append_right (by rw[hc,Nat.succ_mul];omega),hc,show (i+1)*r.size+j - r.size=i*r.size+j by rw[Nat.succ_mul];omega]
    exact ih h.2 hi hj
namespace Sl
variable {r:Rep α}{w w':World}{B B' n c:Nat}{A:Option Addr}{l:List α}
theorem nil (r:Rep α) (w:World) (B:Nat):r.Sl w B none 0 0 []:=⟨rfl,Nat.le_refl _,by unfold maxLen;omega,fun _=>rfl,[],Rd.nil _ _ _ _,trivial⟩
theorem len (h:r.Sl w B A n c l):n=l.length:=h.1
theorem cap (h:r.Sl w B A n c l):n≤c:=h.2.1
theorem keep_ (h:r.Sl w B A n c l) (hk:∀p:Addr,p.block<B→p.block<w.heap.size→w'.cell? p=w.cell? p):r.Sl w' B A n c l:=by
 obtain⟨h1,h2,h3,h4,css,h5,h6⟩:=h
 exact⟨h1,h2,h3,h4,css,h5.keep_ hk,h6.imp fun x y h=>r.keep_ h hk⟩
theorem keep {S:Nat→Prop} (h:r.Sl w B A n c l) (hk:Keep S w w') (hS:∀k,S k→B≤k):r.Sl w' B A n c l:=
  h.keep_ fun p h1 h2=>hk.cell h2 (fun e=>by have:=hS _ e;omega)
theorem more (h:r.Sl w B A n c l) (hB:B≤B'):r.Sl w B' A n c l:=by
 obtain⟨h1,h2,h3,h4,css,h5,h6⟩:=h
 exact⟨h1,h2,h3,h4,css,h5.more hB,h6.imp fun x y h=>r.more h hB⟩
theorem drewN (h:r.Sl w B A n c l) (k:Nat):r.Sl (w.drewN k) B A n c l:=h.keep_ fun _ _ _=>rfl
theorem drew (h:r.Sl w B A n c l):r.Sl w.drew B A n c l:=h.keep_ fun _ _ _=>rfl
theorem alloc (h:r.Sl w B A n c l) (o:Obj):r.Sl (w.alloc o) B A n c l:=h.keep_ fun p _ hp=>World.cell?_alloc_lt w o p hp
theorem at_ (h:r.Sl w B A n c l) {i:Nat} (hi:i<n):∃ad a cs,A=some ad∧ad.block<B∧l[i]?=some a∧r.cells w B a cs∧∀j,j<r.size→w.cell? (ad.add (i*r.size+j))=cs[j]?:=by
 obtain⟨h1,h2,h3,_,css,h5,h6⟩:=h
 have hl:l[i]?=some (l[i]'(by omega)):=List.getElem?_eq_getElem (by omega)
 obtain⟨cs,hcs,hc⟩:=h6.at_ hl
 obtain⟨ad,hA,hb,hat⟩:=h5.at_ hi
 refine⟨ad,_,cs,hA,hb,hl,hc,fun j hj=>?_⟩
 obtain⟨u,hu,hcell⟩:=hat j hj
 rw[hcell,←hu]
 exact flat_at h6 hcs hj
theorem rd (h:r.Sl w B A n c l):∃css:List (List Value),Rd w B r.size A n css.flatten∧All2 (r.cells w B) l css:=h.2.2.2.2
end Sl
def Opens (P:Program) (t:TypeId) (r:Rep α):Prop:=
  ∀{H:Type} (enc:TypeId×Value→H) (w:World) (spare:Nat→Bool) (held:Bool) (fuel:Nat) (cs:List Value) (x:DataW H×List MemPlace),
   DataW.trod enc P w 0 spare held fuel t cs=some x→∃a,r.cells w w.heap.size a cs
theorem opens_int {P:Program}{t:TypeId} (ht:P.underlying t=some (.int .i64)):Opens P t int:=by
 intro H enc w spare held fuel cs x h
 obtain⟨n,rfl,_,hwf⟩:=DataW.trod_int ht h
 have:-9223372036854775808≤n∧n≤9223372036854775807:=by simpa[Lit.wf,IntKind.min,IntKind.max,IntKind.signed,IntKind.bits] using hwf
 exact⟨n,rfl,this⟩
theorem opens_bool {P:Program}{t:TypeId} (ht:P.underlying t=some .bool):Opens P t bool:=by
 intro H enc w spare held fuel cs x h
 obtain⟨n,rfl,_⟩:=DataW.trod_bool ht h
 exact⟨n,rfl⟩
theorem opens_list {P:Program}{t e:TypeId}{r:Rep α} (ht:P.underlying t=some (.slice e)) (hsz:P.cellsOf e=r.size) (hpos:0<r.size) (h:Opens P e r):Opens P t r.list:=by
 intro H enc w spare held fuel cs x hx
 rcases Go.Deep.open_slice ht hx with⟨rfl,_⟩ | ⟨a,len,cap,m,n,D,Pl,rfl,_,hlc,hcm,hm,_,hat⟩
 ·exact⟨[],none,0,0,rfl,Sl.nil _ _ _⟩
 ·have hlm:len≤m:=by rw[hm];split <;> omega
  have hch:∀i,∃cs':List Value,∃b:Option α,i<len→w.cells? 0 (a.add (i*r.size)) r.size=some cs'∧∃y,b=some y∧r.cells w w.heap.size y cs':=by
   intro i
   by_cases hi:i<len
   ·obtain⟨cs',h1,h2⟩:=hat i (by omega)
    rw[hsz] at h1
    obtain⟨y,hy⟩:=h enc w spare held n cs' _ h2
    exact⟨cs',some y,fun _=>⟨h1,y,rfl,hy⟩⟩
   ·exact⟨[],none,fun h'=>absurd h' hi⟩
  obtain⟨f,hf⟩:=Classical.axiomOfChoice hch
  obtain⟨g,hg⟩:=Classical.axiomOfChoice hf
  by_cases hlen:len=0
  ·subst hlen
   exact⟨[],some a,0,cap,rfl,rfl,Nat.zero_le _,hcm,(fun h=>(by cases h)),[],Rd.nil _ _ _ _,trivial⟩
  ·have hne:∃y0:α,True:=by
    obtain⟨_,y,_,_⟩:=hg 0 (by omega)
    exact⟨y,trivial⟩
   obtain⟨y0,_⟩:=hne
   have hall:All2 (r.cells w w.heap.size) ((List.range len).map fun i=>(g i).getD y0) ((List.range len).map f):=
     All2.of_range f _ fun i hi=>by
      obtain⟨_,y,h1,h2⟩:=hg i hi
      simpa[h1] using h2
   refine⟨(List.range len).map fun i=>(g i).getD y0,some a,len,cap,rfl,by simp,hlc,hcm,fun h=>(by cases h),(List.range len).map f,⟨?_,fun _=>⟨a,rfl,?_,?_⟩⟩,hall⟩
   ·rw[flat_len hall];simp
   ·obtain⟨h1,_⟩:=hg 0 (by omega)
    obtain⟨_,h2,h3⟩:=World.cells?_some h1
    have h4:=h3 0 hpos
    rw[List.getElem?_eq_getElem (by omega)] at h4
    have:=cell_lt h4
    rwa [block_add,block_add] at this
   ·intro k u hu
    have hk:k<len*r.size:=by
     have h1:=(List.getElem?_eq_some_iff.1 hu).1
     rw[flat_len hall] at h1
     simpa using h1
    have hdiv:k / r.size<len:=Nat.div_lt_of_lt_mul (by rw[Nat.mul_comm];exact hk)
    have hmod:k % r.size<r.size:=Nat.mod_lt _ hpos
    have hkk:k / r.size*r.size+k % r.size=k:=by rw[Nat.mul_comm];exact Nat.div_add_mod k r.size
    obtain⟨h1,_⟩:=hg (k / r.size) hdiv
    obtain⟨_,_,h3⟩:=World.cells?_some h1
    have h4:=h3 (k % r.size) hmod
    rw[add_add,hkk] at h4
    rw[h4,←hu,←flat_at (r:=r) (w:=w) (B:=w.heap.size) hall (i:=k / r.size) (cs:=f (k / r.size)) (by simp[hdiv]) hmod,hkk]
def FOpens (P:Program) (fs:List Field) (off:Nat) (r:Rep α):Prop:=
  ∀{H:Type} (enc:TypeId×Value→H) (w:World) (spare:Nat→Bool) (held:Bool) (fuel:Nat) (cs:List Value),
   (∀f∈fs,∃x,DataW.trod enc P w 0 spare held fuel f.type ((cs.drop f.offset).take (P.cellsOf f.type))=some x)→cs.length=off+r.size→∃a,r.cells w w.heap.size a (cs.drop off)
theorem fopens_cons {P:Program}{f:Field}{fs:List Field}{off:Nat}{r:Rep α}{s:Rep β} (ho:f.offset=off) (hc:P.cellsOf f.type=r.size) (h:Opens P f.type r) (h':FOpens P fs (off+r.size) s) :
    FOpens P (f::fs) off (r.pair s):=by
  intro H enc w spare held fuel cs hf hl
  obtain⟨x,hx⟩:=hf f (by simp)
  rw[ho,hc] at hx
  obtain⟨a,ha⟩:=h enc w spare held fuel _ _ hx
  obtain⟨b,hb⟩:=h' enc w spare held fuel cs (fun g hg=>hf g (by simp[hg])) (by rw[hl];show off+(r.size+s.size)=_;omega)
  refine⟨(a,b),(cs.drop off).take r.size,cs.drop (off+r.size),?_,ha,hb⟩
  rw[←List.drop_drop,List.take_append_drop]
theorem fopens_last {P:Program}{f:Field}{off:Nat}{r:Rep α} (ho:f.offset=off) (hc:P.cellsOf f.type=r.size) (h:Opens P f.type r):FOpens P [f] off r:=by
 intro H enc w spare held fuel cs hf hl
 obtain⟨x,hx⟩:=hf f (by simp)
 rw[ho,hc,List.take_of_length_le (by rw[List.length_drop,hl];omega)] at hx
 exact h enc w spare held fuel _ _ hx
theorem opens_struct {P:Program}{t:TypeId}{fs:Array Field}{r:Rep α} (ht:P.underlying t=some (.struct fs)) (hsz:P.cellsOf t=r.size) (h:FOpens P fs.toList 0 r):Opens P t r:=by
 intro H enc w spare held fuel cs x hx
 obtain⟨xs,n,_,_,hlen,hxl,hat⟩:=DataW.trod_struct ht hx
 obtain⟨a,ha⟩:=h enc w spare held n cs (fun f hf=>by
  obtain⟨i,hi,rfl⟩:=List.mem_iff_getElem.1 hf
  have hi':i<fs.size:=by simpa using hi
  have h1:=hat i fs[i] (by simp[hi'])
  rw[List.getElem?_eq_getElem (by omega)] at h1
  exact⟨_,by simpa using h1⟩) (by omega)
 exact⟨a,by simpa using ha⟩
end Rep
end Go.Proofs.YtpapiojicbbheaaGreatDoor

namespace Go.Proofs.YtpapiojicbbheaaGreatDoor
open Go.RowKit
abbrev Stp:=Int×Bool
abbrev En:=Int×Int
abbrev Jt:=En×En
abbrev Bl:=Int×Int×Int
abbrev Rt:=Int×List Stp×Int×Int
abbrev Tp:=List Int×List Jt×List Bl×List Rt
def repStp:Rep Stp:=Rep.int.pair Rep.bool
def repEn:Rep En:=Rep.int.pair Rep.int
def repJt:Rep Jt:=repEn.pair repEn
def repBl:Rep Bl:=Rep.int.pair (Rep.int.pair Rep.int)
def repRt:Rep Rt:=Rep.int.pair (repStp.list.pair (Rep.int.pair Rep.int))
def repTp:Rep Tp:=Rep.int.list.pair (repJt.list.pair (repBl.list.pair repRt.list))
theorem opens_stp:Rep.Opens Tryz.prog 30 repStp:=
  Rep.opens_struct Tryz.underlying30 (by kernel_rfl) (Rep.fopens_cons rfl (by kernel_rfl) (Rep.opens_int Tryz.underlying3) (Rep.fopens_last rfl (by kernel_rfl) (Rep.opens_bool Tryz.underlying4)))
theorem opens_stps:Rep.Opens Tryz.prog 35 repStp.list:=Rep.opens_list Tryz.underlying35 (by kernel_rfl) (by decide) opens_stp
theorem opens_en:Rep.Opens Tryz.prog 132 repEn:=
  Rep.opens_struct Tryz.underlying132 (by kernel_rfl) (Rep.fopens_cons rfl (by kernel_rfl) (Rep.opens_int Tryz.underlying3) (Rep.fopens_last rfl (by kernel_rfl) (Rep.opens_int Tryz.underlying3)))
theorem opens_jt:Rep.Opens Tryz.prog 134 repJt:=
  Rep.opens_struct Tryz.underlying134 (by kernel_rfl) (Rep.fopens_cons rfl (by kernel_rfl) opens_en (Rep.fopens_last rfl (by kernel_rfl) opens_en))
theorem opens_bl:Rep.Opens Tryz.prog 94 repBl:=
  Rep.opens_struct Tryz.underlying94 (by kernel_rfl) (Rep.fopens_cons rfl (by kernel_rfl) (Rep.opens_int Tryz.underlying3) (Rep.fopens_cons rfl (by kernel_rfl) (Rep.opens_int Tryz.underlying3) (Rep.fopens_last rfl (by kernel_rfl) (Rep.opens_int Tryz.underlying3))))
theorem opens_rt:Rep.Opens Tryz.prog 64 repRt:=
  Rep.opens_struct Tryz.underlying64 (by kernel_rfl) (Rep.fopens_cons rfl (by kernel_rfl) (Rep.opens_int Tryz.underlying3) (Rep.fopens_cons rfl (by kernel_rfl) opens_stps (Rep.fopens_cons rfl (by kernel_rfl) (Rep.opens_int Tryz.underlying3) (Rep.fopens_last rfl (by kernel_rfl) (Rep.opens_int Tryz.underlying3)))))
theorem opens_tp:Rep.Opens Tryz.prog 27 repTp:=
  Rep.opens_struct Tryz.underlying27 (by kernel_rfl)
    (Rep.fopens_cons rfl (by kernel_rfl) (Rep.opens_list Tryz.underlying22 (by kernel_rfl) (by decide) (Rep.opens_int Tryz.underlying3))
      (Rep.fopens_cons rfl (by kernel_rfl) (Rep.opens_list Tryz.underlying23 (by kernel_rfl) (by decide) opens_jt)
        (Rep.fopens_cons rfl (by kernel_rfl) (Rep.opens_list Tryz.underlying24 (by kernel_rfl) (by decide) opens_bl)
          (Rep.fopens_last rfl (by kernel_rfl) (Rep.opens_list Tryz.underlying25 (by kernel_rfl) (by decide) opens_rt)))))
structure TA where
  Ae:Option Addr
  ne:Nat
  ce:Nat
  Aj:Option Addr
  nj:Nat
  cj:Nat
  Ab:Option Addr
  nb:Nat
  cb:Nat
  Ar:Option Addr
  nr:Nat
  cr:Nat
abbrev TA.cs (x:TA):Array Value:=#[.slice x.Ae x.ne x.ce,.slice x.Aj x.nj x.cj,.slice x.Ab x.nb x.cb,.slice x.Ar x.nr x.cr]
structure TpAt (w:World) (B:Nat) (x:TA) (t:Tp):Prop where
  e:Rep.int.Sl w B x.Ae x.ne x.ce t.1
  j:repJt.Sl w B x.Aj x.nj x.cj t.2.1
  b:repBl.Sl w B x.Ab x.nb x.cb t.2.2.1
  r:repRt.Sl w B x.Ar x.nr x.cr t.2.2.2
theorem TpAt.of {w:World}{B:Nat}{t:Tp}{cs:List Value} (h:repTp.cells w B t cs):∃x:TA,cs=x.cs.toList∧TpAt w B x t:=by
 obtain⟨c1,d1,rfl,⟨Ae,ne,ce,rfl,he⟩,c2,d2,rfl,⟨Aj,nj,cj,rfl,hj⟩,c3,d3,rfl,⟨Ab,nb,cb,rfl,hb⟩,⟨Ar,nr,cr,rfl,hr⟩⟩:=h
 exact⟨⟨Ae,ne,ce,Aj,nj,cj,Ab,nb,cb,Ar,nr,cr⟩,rfl,he,hj,hb,hr⟩
theorem TpAt.keep {w w':World}{B:Nat}{x:TA}{t:Tp} (h:TpAt w B x t) (hk:Keep Never w w'):TpAt w' B x t:=
  ⟨h.e.keep hk (fun _ h=>h.elim),h.j.keep hk (fun _ h=>h.elim),h.b.keep hk (fun _ h=>h.elim),h.r.keep hk (fun _ h=>h.elim)⟩
theorem int_rd {w:World}{B n c:Nat}{A:Option Addr}{l:List Int} (h:Rep.int.Sl w B A n c l):Rd w B 1 A n (l.map (.int .i64)):=by
 obtain⟨hn,_,_,_,css,h5,h6⟩:=h
 have:css.flatten=l.map (.int .i64):=by
  clear h5 hn
  induction l generalizing css with
  | nil=>cases css with
    | nil=>rfl
    | cons b m=>exact h6.elim
  | cons a l ih=>cases css with
    | nil=>exact h6.elim
    | cons b m=>rw[List.flatten_cons,ih m h6.2,h6.1.1];rfl
 rw[this] at h5
 exact h5
theorem stp_at {w:World}{B n c i:Nat}{A:Option Addr}{l:List Stp} (h:repStp.Sl w B A n c l) (hi:i<n):∃ad s,A=some ad∧ad.block<B∧l[i]?=some s∧w.cell? (ad.add (i*2))=some (.int .i64 s.1)∧w.cell? ⟨(ad.add (i*2)).block,(ad.add (i*2)).off+1,none⟩=some (.bool s.2)∧(-9223372036854775808≤s.1∧s.1≤9223372036854775807):=by
 obtain⟨ad,s,cs,e,hb,hs,⟨c1,d1,rfl,⟨rfl,h1⟩,rfl⟩,hc⟩:=h.at_ hi
 have c0:=hc 0 (by decide)
 have c1:=hc 1 (by decide)
 have hsz:repStp.size=2:=rfl
 rw[hsz] at c0 c1
 rw[fld _ _ (by omega)] at c1
 exact⟨ad,s,e,hb,hs,c0,c1,h1⟩
theorem jt_at {w:World}{B n c i:Nat}{A:Option Addr}{l:List Jt} (h:repJt.Sl w B A n c l) (hi:i<n):∃ad s,A=some ad∧ad.block<B∧l[i]?=some s∧w.cell? (ad.add (i*4))=some (.int .i64 s.1.1)∧w.cell? ⟨(ad.add (i*4)).block,(ad.add (i*4)).off+1,none⟩=some (.int .i64 s.1.2) ∧
    w.cell? ⟨(ad.add (i*4)).block,(ad.add (i*4)).off+2,none⟩=some (.int .i64 s.2.1)∧w.cell? ⟨(ad.add (i*4)).block,(ad.add (i*4)).off+3,none⟩=some (.int .i64 s.2.2):=by
  obtain⟨ad,s,cs,e,hb,hs,⟨c1,d1,rfl,⟨c2,d2,rfl,⟨rfl,_⟩,⟨rfl,_⟩⟩,⟨c3,d3,rfl,⟨rfl,_⟩,⟨rfl,_⟩⟩⟩,hc⟩:=h.at_ hi
  have c0:=hc 0 (by decide)
  have c1:=hc 1 (by decide)
  have c2:=hc 2 (by decide)
  have c3:=hc 3 (by decide)
  have hsz:repJt.size=4:=rfl
  rw[hsz] at c0 c1 c2 c3
  rw[fld _ _ (by omega)] at c1 c2 c3
  exact⟨ad,s,e,hb,hs,c0,c1,c2,c3⟩
def inE (s:Stp):En:=(s.1,if s.2=true then 1 else 0)
def outE (s:Stp):En:=(s.1,if s.2=true then 0 else 1)
def thereB (ne:Nat) (x:Int):Bool:=decide (0≤x)&&decide (x<(ne:Int))
set_option maxHeartbeats 1000000 in
set_option maxRecDepth 100000 in
theorem there_any (x:TA) (i:Int) (w:World) :
    Calls Tryz.prog 84 #[.agg x.cs,.int .i64 i] w fun e w'=>e=.returned (.bool (thereB x.ne i))∧Keep Never w w':=by
  obtain⟨Ae,ne,ce,Aj,nj,cj,Ab,nb,cb,Ar,nr,cr⟩:=x
  simp only[TA.cs]
  obtain⟨wb,hwb⟩:∃wb:World,w.alloc (.cells #[.slice Ae ne ce,.slice Aj nj cj,.slice Ab nb cb,.slice Ar nr cr] 27)=wb:=⟨_,rfl⟩
  have hkb:Keep Never w wb:=by rw[←hwb];exact(Keep.refl _ _).alloc _
  have hbb:=Blk.new w 27 #[.slice Ae ne ce,.slice Aj nj cj,.slice Ab nb cb,.slice Ar nr cr]
  rw[hwb] at hbb
  have y0:wb.cell? ⟨w.heap.size,0,none⟩=some (.slice Ae ne ce):=hbb.cell 0
  have HK:=qh hkb
  clear hkb hbb
  by_cases h0:0≤i
  ·have t0:decide (i≥0)=true:=by simpa using h0
   by_cases h1:i<(ne:Int)
   ·have t1:decide (i<(ne:Int))=true:=by simpa using h1
    have hB:Hid (thereB ne i=true):=qh (by unfold thereB;simp[h0,h1])
    clear h0 h1
    go_enter Tryz.func84, Tryz.ntmps84
    go_wp2_with fail
    go_ret
    exact⟨by rw[hB.out];rfl,HK.out⟩
   ·have t1:decide (i<(ne:Int))=false:=by simpa using h1
    have hB:Hid (thereB ne i=false):=qh (by unfold thereB;simp[h1])
    clear h0 h1
    go_enter Tryz.func84, Tryz.ntmps84
    go_wp2_with fail
    go_ret
    exact⟨by rw[hB.out];rfl,HK.out⟩
  ·have t0:decide (i≥0)=false:=by simpa using h0
   have hB:Hid (thereB ne i=false):=qh (by unfold thereB;simp[h0])
   clear h0
   go_enter Tryz.func84, Tryz.ntmps84
   go_wp2_with fail
   go_ret
   exact⟨by rw[hB.out];rfl,HK.out⟩
set_option maxHeartbeats 1000000 in
set_option maxRecDepth 100000 in
theorem redge_any (x:TA) (i:Int) (w:World) :
    Calls Tryz.prog 110 #[.agg x.cs,.int .i64 i] w fun e w'=>e=.returned (.bool (thereB x.ne i))∧Keep Never w w':=by
  obtain⟨Ae,ne,ce,Aj,nj,cj,Ab,nb,cb,Ar,nr,cr⟩:=x
  simp only[TA.cs]
  obtain⟨wb,hwb⟩:∃wb:World,w.alloc (.cells #[.slice Ae ne ce,.slice Aj nj cj,.slice Ab nb cb,.slice Ar nr cr] 27)=wb:=⟨_,rfl⟩
  have hkb:Keep Never w wb:=by rw[←hwb];exact(Keep.refl _ _).alloc _
  have hbb:=Blk.new w 27 #[.slice Ae ne ce,.slice Aj nj cj,.slice Ab nb cb,.slice Ar nr cr]
  rw[hwb] at hbb
  have y0:wb.cell? ⟨w.heap.size,0,none⟩=some (.slice Ae ne ce):=hbb.cell 0
  have HK:=qh hkb
  clear hkb hbb
  by_cases h0:0≤i
  ·have t0:decide (i≥0)=true:=by simpa using h0
   by_cases h1:i<(ne:Int)
   ·have t1:decide (i<(ne:Int))=true:=by simpa using h1
    have hB:Hid (thereB ne i=true):=qh (by unfold thereB;simp[h0,h1])
    clear h0 h1
    go_enter Tryz.func110, Tryz.ntmps110
    go_wp2_with fail
    go_ret
    exact⟨by rw[hB.out];rfl,HK.out⟩
   ·have t1:decide (i<(ne:Int))=false:=by simpa using h1
    have hB:Hid (thereB ne i=false):=qh (by unfold thereB;simp[h1])
    clear h0 h1
    go_enter Tryz.func110, Tryz.ntmps110
    go_wp2_with fail
    go_ret
    exact⟨by rw[hB.out];rfl,HK.out⟩
  ·have t0:decide (i≥0)=false:=by simpa using h0
   have hB:Hid (thereB ne i=false):=qh (by unfold thereB;simp[h0])
   clear h0
   go_enter Tryz.func110, Tryz.ntmps110
   go_wp2_with fail
   go_ret
   exact⟨by rw[hB.out];rfl,HK.out⟩
set_option maxRecDepth 100000 in
theorem end_results {fn:Func} (h:fn.results=#[.cell 2 132]) {w:World}{b:Nat}{v0 v1:Value} (hb:Blk w b 132 #[v0,v1]) (tmps:Array Value) (ht:tmps.getD 2 undef=.pointer (some ⟨b,0,none⟩)) :
    (results fn tmps).run Tryz.prog w=.ok (.agg #[v0,v1]) w:=by
  have q0:w.cell? ⟨b,0,none⟩=some v0:=hb.cell 0
  have q1:w.cell? ⟨b,1,none⟩=some v1:=hb.cell 1
  have ht':tmps[2]?.getD undef=.pointer (some ⟨b,0,none⟩):=by rw[←Array.getD_eq_getD_getElem?];exact ht
  simp[results,h,ht',go_sem,q0,q1]
set_option maxHeartbeats 1000000 in
set_option maxRecDepth 100000 in
theorem enters_any (s:Stp) (w:World) :
    Calls Tryz.prog 90 #[.agg #[.int .i64 s.1,.bool s.2]] w fun e w'=>e=.returned (.agg #[.int .i64 (inE s).1,.int .i64 (inE s).2])∧Keep Never w w':=by
  obtain⟨a,b⟩:=s
  simp only
  cases b
  all_goals
   go_enter Tryz.func90, Tryz.ntmps90
   go_wp2_with fail
   refine bodyPost_ret (end_results rfl (Blk.new _ _ _) _ (by simp)) rfl ⟨rfl,?_⟩
   exact((Keep.refl Never w).alloc _).alloc _
set_option maxHeartbeats 1000000 in
set_option maxRecDepth 100000 in
theorem rin_any (s:Stp) (w:World) :
    Calls Tryz.prog 113 #[.agg #[.int .i64 s.1,.bool s.2]] w fun e w'=>e=.returned (.agg #[.int .i64 (inE s).1,.int .i64 (inE s).2])∧Keep Never w w':=by
  obtain⟨a,b⟩:=s
  simp only
  cases b
  all_goals
   go_enter Tryz.func113, Tryz.ntmps113
   go_wp2_with fail
   refine bodyPost_ret (end_results rfl (Blk.new _ _ _) _ (by simp)) rfl ⟨rfl,?_⟩
   exact((Keep.refl Never w).alloc _).alloc _
set_option maxHeartbeats 1000000 in
set_option maxRecDepth 100000 in
theorem rout_any (s:Stp) (w:World) :
    Calls Tryz.prog 112 #[.agg #[.int .i64 s.1,.bool s.2]] w fun e w'=>e=.returned (.agg #[.int .i64 (outE s).1,.int .i64 (outE s).2])∧Keep Never w w':=by
  obtain⟨a,b⟩:=s
  simp only
  cases b
  all_goals
   go_enter Tryz.func112, Tryz.ntmps112
   go_wp2_with fail
   refine bodyPost_ret (end_results rfl (Blk.new _ _ _) _ (by simp)) rfl ⟨rfl,?_⟩
   exact((Keep.refl Never w).alloc _).alloc _
set_option maxHeartbeats 1000000 in
set_option maxRecDepth 100000 in
theorem leaves_any (s:Stp) (w:World) :
    Calls Tryz.prog 85 #[.agg #[.int .i64 s.1,.bool s.2]] w fun e w'=>e=.returned (.agg #[.int .i64 (outE s).1,.int .i64 (outE s).2])∧Keep Never w w':=by
  obtain⟨a,b⟩:=s
  simp only
  have hio:inE (a,!b)=outE (a,b):=by cases b <;> rfl
  have HC:=qh (fun W=>enters_any (a,!b) W)
  rw[hio] at HC
  generalize outE (a,b)=o at HC hio ⊢
  obtain⟨o1,o2⟩:=o
  simp only at HC ⊢
  obtain⟨w2,hw2⟩:∃w2:World,(w.alloc (.cells #[.int .i64 a,.bool !b] 30)).alloc (.cells #[.int .i64 0,.int .i64 0] 132)=w2:=⟨_,rfl⟩
  have hk2:Keep Never w w2:=by rw[←hw2];exact((Keep.refl _ _).alloc _).alloc _
  have hb2:Blk w2 (w.heap.size+1) 132 #[.int .i64 0,.int .i64 0]:=by
   have h:=Blk.new (w.alloc (.cells #[.int .i64 a,.bool !b] 30)) 132 #[.int .i64 0,.int .i64 0]
   have hs:(w.alloc (.cells #[.int .i64 a,.bool !b] 30)).heap.size=w.heap.size+1:=by simp
   rwa [hs,hw2] at h
  have HK2:=qh hk2
  have HB2:=qh hb2
  have HW2:=qh hw2
  clear hk2 hb2 hio hw2
  go_enter Tryz.func85, Tryz.ntmps85
  go_wp2_with fail
  rw[HW2.out]
  refine(HC.out _).mono ?_
  rintro e w3 ⟨rfl,hk3⟩
  have hb3:=HB2.out.keep hk3 (fun h=>h)
  have q0:=hb3.cell 0
  have q1:=hb3.cell 1
  have f0:=hb3.frozen 0
  have f1:=hb3.frozen 1
  have HB3:=qh hb3
  have HK3:=qtr HK2 hk3
  clear hb3 hk3 HC
  go_wp2_with fail
  refine bodyPost_ret (end_results rfl (v0:=.int .i64 o1) (v1:=.int .i64 o2) (b:=w.heap.size+1) ?_ _ (by simp)) rfl ⟨rfl,?_⟩
  ·have h:=(HB3.out.set_ 0 (.int .i64 o1)).set_ 1 (.int .i64 o2)
   simpa using h
  ·exact((HK3.out.set_ (p:=⟨w.heap.size+1,0,none⟩) (.inr (by show w.heap.size≤w.heap.size+1;omega)) _).set_ (p:=⟨w.heap.size+1,1,none⟩) (.inr (by show w.heap.size≤w.heap.size+1;omega)) _)
def joinB (l:List Jt) (a b:En):Bool:=l.any fun j=>decide (j=(a,b)) || decide (j=(b,a))
def mayJ (l:List Jt) (s t:Stp):Bool:=joinB l (outE s) (inE t)
end Go.Proofs.YtpapiojicbbheaaGreatDoor

namespace Go.Proofs.YtpapiojicbbheaaGreatDoor
open Go.RowKit
theorem four (p1 p2 p3 p4:Bool):p1=false∨(p1=true∧p2=false)∨(p1=true∧p2=true∧p3=false)∨(p1=true∧p2=true∧p3=true∧p4=false)∨(p1=true∧p2=true∧p3=true∧p4=true):=by
 cases p1 <;> cases p2 <;> cases p3 <;> cases p4 <;> simp
set_option maxHeartbeats 1000000 in
set_option maxRecDepth 100000 in
theorem jindex_any (A:Option Addr) (n c B:Nat) (l:List Jt) (v:Jt) (w:World) (hs:repJt.Sl w B A n c l) (hn:n≤100000000) :
    Calls Tryz.prog 190 #[.slice A n c,.agg #[.int .i64 v.1.1,.int .i64 v.1.2,.int .i64 v.2.1,.int .i64 v.2.2]] w fun e w'=>∃r:Int,e=.returned (.int .i64 r)∧Hid (0≤r↔v∈l)∧Keep Never w w':=by
  obtain⟨⟨v1,v2⟩,v3,v4⟩:=v
  simp only
  obtain⟨wb,hwb⟩:∃wb:World,w.alloc (.cells #[.int .i64 v1,.int .i64 v2,.int .i64 v3,.int .i64 v4] 134)=wb:=⟨_,rfl⟩
  have hkb:Keep Never w wb:=by rw[←hwb];exact(Keep.refl _ _).alloc _
  have hbb:=Blk.new w 134 #[.int .i64 v1,.int .i64 v2,.int .i64 v3,.int .i64 v4]
  rw[hwb] at hbb
  have HS:=qh (hs.keep hkb (fun _ h=>h.elim))
  have HB:=qh hbb
  have HK:=qh hkb
  have HLn:Hid (n=l.length):=qh hs.len
  clear hkb hbb hs
  go_enter Tryz.func190, Tryz.ntmps190
  go_wp2_with fail
  go_loopw [5,8] (fun _ i wr=>∃k:Nat,k≤n∧i=.int .i64 k∧Hid (Keep Never wb wr∧(((v1,v2),(v3,v4)):Jt)∉l.take k)) (fun _ i _=>n - (intOf i).toNat)
  case atStart=>exact⟨0,by omega,rfl,qh ⟨Keep.refl _ _,by simp⟩⟩
  case round=>
   obtain⟨k,hk,rfl,HH⟩:=hrel
   by_cases h0:k<n
   ·have hkz:(k:Int)<(n:Int):=by omega
    obtain⟨ad,s,hA,hab,hs,c0,c1,c2,c3⟩:=jt_at (HS.out.keep HH.out.1 (fun _ h=>h.elim)) h0
    subst hA
    obtain⟨⟨s1,s2⟩,s3,s4⟩:=s
    simp only at c0 c1 c2 c3
    have hbb:=HB.out.keep HH.out.1 (fun h=>h)
    have y0:=hbb.cell 0
    have y1:=hbb.cell 1
    have y2:=hbb.cell 2
    have y3:=hbb.cell 3
    have hT:l.take (k+1)=l.take k++[((s1,s2),(s3,s4))]:=by
     obtain⟨h2,h3⟩:=List.getElem?_eq_some_iff.1 hs
     rw[List.take_succ_eq_append_getElem h2,h3]
    have HT:=qh hT
    have HSk:=qh hs
    clear hbb hs hT hab
    go_wp2_with fail
    rcases four (v1==s1) (v2==s2) (v3==s3) (v4==s4) with g1 | ⟨g1,g2⟩ | ⟨g1,g2,g3⟩ | ⟨g1,g2,g3,g4⟩ | ⟨g1,g2,g3,g4⟩
    case inr.inr.inr.inr=>
     have HE:Hid ((((v1,v2),(v3,v4)):Jt)∈l):=qh (by
      have e1:v1=s1:=by simpa using g1
      have e2:v2=s2:=by simpa using g2
      have e3:v3=s3:=by simpa using g3
      have e4:v4=s4:=by simpa using g4
      rw[e1,e2,e3,e4]
      exact List.mem_of_getElem? HSk.out)
     go_quiet (fail)
     go_wp2_with fail
     go_ret
     exact⟨_,rfl,qh ⟨fun _=>HE.out,fun _=>by omega⟩,(HK.out.trans HH.out.1).drewN _⟩
    all_goals
     have HE:Hid ((((v1,v2),(v3,v4)):Jt)∉l.take (k+1)):=qh (by
      rw[HT.out,List.mem_append,List.mem_singleton]
      rintro(h | h)
      ·exact HH.out.2 h
      ·injection h with h h'
       injection h with h1 h2
       injection h' with h3 h4
       subst h1 h2 h3 h4
       simp_all)
     go_quiet (fail)
     go_wp2_with fail
     refine⟨⟨k+1,by omega,by go_num,qh ⟨HH.out.1.drewN _,HE.out⟩⟩,?_⟩
     simp[intOf];try omega
   ·obtain rfl:k=n:=by omega
    have hkz:¬(k:Int)<(k:Int):=by omega
    have HE:Hid ((((v1,v2),(v3,v4)):Jt)∉l):=qh (by have:=HH.out.2;rwa [List.take_of_length_le (by rw[HLn.out];exact Nat.le_refl _)] at this)
    go_wp2_with fail
    go_ret
    exact⟨-1,rfl,qh ⟨fun h=>absurd h (by omega),fun h=>absurd h HE.out⟩,HK.out.trans HH.out.1⟩
set_option maxHeartbeats 1000000 in
set_option maxRecDepth 100000 in
theorem jcontains_any (A:Option Addr) (n c B:Nat) (l:List Jt) (v:Jt) (w:World) (hs:repJt.Sl w B A n c l) (hn:n≤100000000) :
    Calls Tryz.prog 154 #[.slice A n c,.agg #[.int .i64 v.1.1,.int .i64 v.1.2,.int .i64 v.2.1,.int .i64 v.2.2]] w fun e w'=>e=.returned (.bool (decide (v∈l)))∧Keep Never w w':=by
  obtain⟨⟨v1,v2⟩,v3,v4⟩:=v
  simp only
  obtain⟨wb,hwb⟩:∃wb:World,w.alloc (.cells #[.int .i64 v1,.int .i64 v2,.int .i64 v3,.int .i64 v4] 134)=wb:=⟨_,rfl⟩
  have hkb:Keep Never w wb:=by rw[←hwb];exact(Keep.refl _ _).alloc _
  have hbb:=Blk.new w 134 #[.int .i64 v1,.int .i64 v2,.int .i64 v3,.int .i64 v4]
  rw[hwb] at hbb
  have y0:=hbb.cell 0
  have y1:=hbb.cell 1
  have y2:=hbb.cell 2
  have y3:=hbb.cell 3
  have HC:=qh (jindex_any A n c B l ((v1,v2),(v3,v4)) wb (hs.keep hkb (fun _ h=>h.elim)) hn)
  have HK:=qh hkb
  clear hkb hbb hs
  go_enter Tryz.func154, Tryz.ntmps154
  go_wp2_with fail
  refine HC.out.mono ?_
  rintro e w2 ⟨r,rfl,hr,hk⟩
  have HK2:=qtr HK hk
  clear hk HC
  by_cases h0:0≤r
  ·have t0:decide (r≥0)=true:=by simpa using h0
   have HD:Hid (decide ((((v1,v2),(v3,v4)):Jt)∈l)=true):=qh (decide_eq_true (hr.out.1 h0))
   clear h0 hr
   go_wp2_with fail
   go_ret
   exact⟨by rw[HD.out];rfl,HK2.out⟩
  ·have t0:decide (r≥0)=false:=by simpa using h0
   have HD:Hid (decide ((((v1,v2),(v3,v4)):Jt)∈l)=false):=qh (decide_eq_false (fun h=>h0 (hr.out.2 h)))
   clear h0 hr
   go_wp2_with fail
   go_ret
   exact⟨by rw[HD.out];rfl,HK2.out⟩
theorem joinB_eq (l:List Jt) (a b:En):joinB l a b=(decide ((a,b)∈l) || decide ((b,a)∈l)):=by
 rw[Bool.eq_iff_iff]
 simp only[joinB,List.any_eq_true,Bool.or_eq_true,decide_eq_true_eq]
 constructor
 ·rintro⟨j,h,rfl | rfl⟩
  ·exact .inl h
  ·exact .inr h
 ·rintro(h | h)
  ·exact⟨_,h,.inl rfl⟩
  ·exact⟨_,h,.inr rfl⟩
set_option maxHeartbeats 1000000 in
set_option maxRecDepth 100000 in
theorem joins_any (x:TA) (t:Tp) (B:Nat) (a b:En) (w:World) (ht:TpAt w B x t) (hn:x.nj≤100000000) :
    Calls Tryz.prog 103 #[.agg x.cs,.agg #[.int .i64 a.1,.int .i64 a.2],.agg #[.int .i64 b.1,.int .i64 b.2]] w fun e w'=>e=.returned (.bool (joinB t.2.1 a b))∧Keep Never w w':=by
  obtain⟨Ae,ne,ce,Aj,nj,cj,Ab,nb,cb,Ar,nr,cr⟩:=x
  have hj:=ht.j
  simp only[TA.cs] at hj hn ⊢
  obtain⟨a1,a2⟩:=a
  obtain⟨b1,b2⟩:=b
  simp only
  obtain⟨w1,hw1⟩:∃wb:World,w.alloc (.cells #[.slice Ae ne ce,.slice Aj nj cj,.slice Ab nb cb,.slice Ar nr cr] 27)=wb:=⟨_,rfl⟩
  obtain⟨w2,hw2⟩:∃wb:World,w1.alloc (.cells #[.int .i64 a1,.int .i64 a2] 132)=wb:=⟨_,rfl⟩
  obtain⟨w3,hw3⟩:∃wb:World,w2.alloc (.cells #[.int .i64 b1,.int .i64 b2] 132)=wb:=⟨_,rfl⟩
  have s1:w1.heap.size=w.heap.size+1:=by rw[←hw1];simp
  have s2:w2.heap.size=w.heap.size+1+1:=by rw[←hw2,←s1];simp
  have k1:Keep Never w w1:=by rw[←hw1];exact(Keep.refl _ _).alloc _
  have k2:Keep Never w1 w2:=by rw[←hw2];exact(Keep.refl _ _).alloc _
  have k3:Keep Never w2 w3:=by rw[←hw3];exact(Keep.refl _ _).alloc _
  have b1':=Blk.new w 27 #[.slice Ae ne ce,.slice Aj nj cj,.slice Ab nb cb,.slice Ar nr cr]
  rw[hw1] at b1'
  have b2':=Blk.new w1 132 #[.int .i64 a1,.int .i64 a2]
  rw[hw2,s1] at b2'
  have b3':=Blk.new w2 132 #[.int .i64 b1,.int .i64 b2]
  rw[hw3,s2] at b3'
  have HB:Hid (Blk w3 w.heap.size 27 #[.slice Ae ne ce,.slice Aj nj cj,.slice Ab nb cb,.slice Ar nr cr]∧Blk w3 (w.heap.size+1) 132 #[.int .i64 a1,.int .i64 a2]∧Blk w3 (w.heap.size+1+1) 132 #[.int .i64 b1,.int .i64 b2]):=
    qh ⟨(b1'.keep k2 (fun h=>h)).keep k3 (fun h=>h),b2'.keep k3 (fun h=>h),b3'⟩
  have HK:=qh ((k1.trans k2).trans k3)
  have HJ:Hid (∀w',Keep Never w w'→repJt.Sl w' B Aj nj cj t.2.1):=qh (fun w' h=>hj.keep h (fun _ h=>h.elim))
  have HC:=qh (jcontains_any Aj nj cj B t.2.1 ((a1,a2),(b1,b2)) w3 (HJ.out _ HK.out) hn)
  have HE:=qh (joinB_eq t.2.1 (a1,a2) (b1,b2))
  have hw1':=hw1
  have y1:w3.cell? ⟨w.heap.size,1,none⟩=some (.slice Aj nj cj):=HB.out.1.cell 1
  obtain⟨y2,y3⟩:=bc2 HB.out.2.1
  obtain⟨y4,y5⟩:=bc2 HB.out.2.2
  clear k1 k2 k3 b1' b2' b3' hj ht hw1'
  go_enter Tryz.func103, Tryz.ntmps103
  go_wp2_with fail
  refine HC.out.mono ?_
  rintro e w4 ⟨rfl,hk4⟩
  have HK4:=qtr HK hk4
  have z1:=(HB.out.1.keep hk4 (fun h=>h)).cell 1
  have z2:=(HB.out.2.1.keep hk4 (fun h=>h)).cell 0
  have z3:=(HB.out.2.1.keep hk4 (fun h=>h)).cell 1
  have z4:=(HB.out.2.2.keep hk4 (fun h=>h)).cell 0
  have z5:=(HB.out.2.2.keep hk4 (fun h=>h)).cell 1
  have HC2:=qh (jcontains_any Aj nj cj B t.2.1 ((b1,b2),(a1,a2)) w4 (HJ.out _ HK4.out) hn)
  clear hk4 HC y1 y2 y3 y4 y5
  cases hd:decide ((((a1,a2),(b1,b2)):Jt)∈t.2.1) with
  | true=>
   have HD:=qh hd
   clear hd
   go_wp2_with fail
   go_ret
   exact⟨by rw[HE.out,HD.out];rfl,HK4.out⟩
  | false=>
   have HD:=qh hd
   clear hd
   go_wp2_with fail
   refine HC2.out.mono ?_
   rintro e w5 ⟨rfl,hk5⟩
   have HK5:=qtr HK4 hk5
   clear hk5 HC2
   go_wp2_with fail
   go_ret
   exact⟨by rw[HE.out,HD.out];rfl,HK5.out⟩
end Go.Proofs.YtpapiojicbbheaaGreatDoor

namespace Go.Proofs.YtpapiojicbbheaaGreatDoor
open Go.RowKit
theorem keepT {w w':World}{a:Addr}{u:Value} (hk:Keep Never w w') (h:w.cell? a=some u):w'.cell? a=some u:=(hk.cell (cell_lt h) (fun h=>h)).trans h
def sameE (x1 x2 y1 y2:Int):Bool:=decide (((x1,x2):En)=(y1,y2))
theorem run_eq_end (w:World) (x1 x2 y1 y2:Int):(binOp .eql 132 (.agg #[.int .i64 x1,.int .i64 x2]) (.agg #[.int .i64 y1,.int .i64 y2])).run Tryz.prog w=.ok (.bool (sameE x1 x2 y1 y2)) w:=by
 by_cases h1:x1=y1
 ·have t1:(x1==y1)=true:=by simpa using h1
  by_cases h2:x2=y2
  ·have t2:(x2==y2)=true:=by simpa using h2
   have hd:sameE x1 x2 y1 y2=true:=decide_eq_true (by rw[h1,h2])
   rw[hd]
   clear h1 h2 hd
   go_simp
  ·have t2:(x2==y2)=false:=by simpa using h2
   have hd:sameE x1 x2 y1 y2=false:=decide_eq_false (by simp[h2])
   rw[hd]
   clear h1 h2 hd
   go_simp
 ·have t1:(x1==y1)=false:=by simpa using h1
  have hd:sameE x1 x2 y1 y2=false:=decide_eq_false (by simp[h1])
  rw[hd]
  clear h1 hd
  go_simp
theorem joinB_le {l:List Jt}{k:Nat}{a b:En} (h:joinB (l.take k) a b=true):joinB l a b=true:=by
 unfold joinB at h ⊢
 rw[List.any_eq_true] at h ⊢
 obtain⟨j,h1,h2⟩:=h
 exact⟨j,List.mem_of_mem_take h1,h2⟩
theorem joinB_snoc_t {l:List Jt}{x1 x2 x3 x4 a1 a2 b1 b2:Int} (h:(sameE x1 x2 a1 a2=true∧sameE x3 x4 b1 b2=true)∨(sameE x1 x2 b1 b2=true∧sameE x3 x4 a1 a2=true)):joinB (l++[((x1,x2),(x3,x4))]) (a1,a2) (b1,b2)=true:=by
 unfold joinB sameE at *
 simp only[decide_eq_true_eq] at h
 rw[List.any_append]
 rcases h with⟨h1,h2⟩ | ⟨h1,h2⟩ <;> rw[h1,h2] <;> simp
theorem joinB_snoc_f {l:List Jt}{x1 x2 x3 x4 a1 a2 b1 b2:Int} (h0:joinB l (a1,a2) (b1,b2)=false) (h:sameE x1 x2 a1 a2=false∨sameE x3 x4 b1 b2=false) (h':sameE x1 x2 b1 b2=false∨sameE x3 x4 a1 a2=false):joinB (l++[((x1,x2),(x3,x4))]) (a1,a2) (b1,b2)=false:=by
 unfold joinB sameE at *
 simp only[decide_eq_false_iff_not] at h h'
 rw[List.any_append,h0]
 simp only[List.any_cons,List.any_nil,Bool.or_false,Bool.false_or,Bool.or_eq_false_iff,decide_eq_false_iff_not,Prod.mk.injEq,not_and] at *
 omega
set_option maxHeartbeats 40000000 in
set_option maxRecDepth 100000 in
theorem rjoined_any (A:Option Addr) (n c B:Nat) (l:List Jt) (a b:En) (w:World) (hs:repJt.Sl w B A n c l) (hn:n≤100000000) :
    Calls Tryz.prog 109 #[.slice A n c,.agg #[.int .i64 a.1,.int .i64 a.2],.agg #[.int .i64 b.1,.int .i64 b.2]] w fun e w'=>e=.returned (.bool (joinB l a b))∧Keep Never w w':=by
  obtain⟨a1,a2⟩:=a
  obtain⟨b1,b2⟩:=b
  simp only
  have qe:∀(w:World) (x1 x2 y1 y2:Int),(binOp .eql 132 (.agg #[.int .i64 x1,.int .i64 x2]) (.agg #[.int .i64 y1,.int .i64 y2])).run Tryz.prog w=.ok (.bool (sameE x1 x2 y1 y2)) w:=run_eq_end
  obtain⟨w1,hw1⟩:∃wb:World,w.alloc (.cells #[.int .i64 a1,.int .i64 a2] 132)=wb:=⟨_,rfl⟩
  obtain⟨w2,hw2⟩:∃wb:World,w1.alloc (.cells #[.int .i64 b1,.int .i64 b2] 132)=wb:=⟨_,rfl⟩
  have s1:w1.heap.size=w.heap.size+1:=by rw[←hw1];simp
  have k1:Keep Never w w1:=by rw[←hw1];exact(Keep.refl _ _).alloc _
  have k2:Keep Never w1 w2:=by rw[←hw2];exact(Keep.refl _ _).alloc _
  have b1':=Blk.new w 132 #[.int .i64 a1,.int .i64 a2]
  rw[hw1] at b1'
  have b2':=Blk.new w1 132 #[.int .i64 b1,.int .i64 b2]
  rw[hw2,s1] at b2'
  have HB:Hid (Blk w2 w.heap.size 132 #[.int .i64 a1,.int .i64 a2]∧Blk w2 (w.heap.size+1) 132 #[.int .i64 b1,.int .i64 b2]):=qh ⟨b1'.keep k2 (fun h=>h),b2'⟩
  have HK:=qh (k1.trans k2)
  have HS:=qh (hs.keep HK.out (fun _ h=>h.elim))
  have HLn:Hid (n=l.length):=qh hs.len
  clear k1 k2 b1' b2' hs
  go_enter Tryz.func109, Tryz.ntmps109
  go_wp2_with fail
  go_loopw [7] (fun i wr=>∃k:Nat,k≤n∧i=.int .i64 k∧Hid (Keep Never w2 wr∧joinB (l.take k) (a1,a2) (b1,b2)=false)) (fun i _=>n - (intOf i).toNat)
  case atStart=>exact⟨0,by omega,rfl,qh ⟨Keep.refl _ _,rfl⟩⟩
  case round=>
   obtain⟨k,hk,rfl,HH⟩:=hrel
   by_cases h0:k<n
   ·have hkz:(k:Int)<(n:Int):=by omega
    obtain⟨ad,s,hA,hab,hs,c0,c1,c2,c3⟩:=jt_at (HS.out.keep HH.out.1 (fun _ h=>h.elim)) h0
    subst hA
    obtain⟨⟨x1,x2⟩,x3,x4⟩:=s
    simp only at c0 c1 c2 c3
    have y0:=(HB.out.1.keep HH.out.1 (fun h=>h)).cell 0
    have y1:=(HB.out.1.keep HH.out.1 (fun h=>h)).cell 1
    have y2:=(HB.out.2.keep HH.out.1 (fun h=>h)).cell 0
    have y3:=(HB.out.2.keep HH.out.1 (fun h=>h)).cell 1
    have HT:Hid (l.take (k+1)=l.take k++[((x1,x2),(x3,x4))]):=qh (by
     obtain⟨h2,h3⟩:=List.getElem?_eq_some_iff.1 hs
     rw[List.take_succ_eq_append_getElem h2,h3])
    have HSk:=qh hs
    clear hs hab
    go_wp2_with fail
    rcases Bool.eq_false_or_eq_true (sameE x1 x2 a1 a2) with t1 | t1
    ·rcases Bool.eq_false_or_eq_true (sameE x3 x4 b1 b2) with t2 | t2
     ·have HF:Hid (joinB l (a1,a2) (b1,b2)=true):=qh (joinB_le (k:=k+1) (by rw[HT.out];exact joinB_snoc_t (.inl ⟨t1,t2⟩)))
      go_quiet (fail)
      go_wp2_with fail
      go_ret
      exact⟨by rw[HF.out];rfl,(HK.out.trans HH.out.1).drewN _⟩
     ·rcases Bool.eq_false_or_eq_true (sameE x1 x2 b1 b2) with t3 | t3
      ·rcases Bool.eq_false_or_eq_true (sameE x3 x4 a1 a2) with t4 | t4
       ·have HF:Hid (joinB l (a1,a2) (b1,b2)=true):=qh (joinB_le (k:=k+1) (by rw[HT.out];exact joinB_snoc_t (.inr ⟨t3,t4⟩)))
        go_quiet (fail)
        go_wp2_with fail
        go_ret
        exact⟨by rw[HF.out];rfl,(HK.out.trans HH.out.1).drewN _⟩
       ·have HF:Hid (joinB (l.take (k+1)) (a1,a2) (b1,b2)=false):=qh (by rw[HT.out];exact joinB_snoc_f HH.out.2 (.inr t2) (.inr t4))
        go_quiet (fail)
        go_wp2_with fail
        refine⟨⟨k+1,by omega,by go_num,qh ⟨HH.out.1.drewN _,HF.out⟩⟩,?_⟩
        simp[intOf];try omega
      ·have HF:Hid (joinB (l.take (k+1)) (a1,a2) (b1,b2)=false):=qh (by rw[HT.out];exact joinB_snoc_f HH.out.2 (.inr t2) (.inl t3))
       go_quiet (fail)
       go_wp2_with fail
       refine⟨⟨k+1,by omega,by go_num,qh ⟨HH.out.1.drewN _,HF.out⟩⟩,?_⟩
       simp[intOf];try omega
    ·rcases Bool.eq_false_or_eq_true (sameE x1 x2 b1 b2) with t3 | t3
     ·rcases Bool.eq_false_or_eq_true (sameE x3 x4 a1 a2) with t4 | t4
      ·have HF:Hid (joinB l (a1,a2) (b1,b2)=true):=qh (joinB_le (k:=k+1) (by rw[HT.out];exact joinB_snoc_t (.inr ⟨t3,t4⟩)))
       go_quiet (fail)
       go_wp2_with fail
       go_ret
       exact⟨by rw[HF.out];rfl,(HK.out.trans HH.out.1).drewN _⟩
      ·have HF:Hid (joinB (l.take (k+1)) (a1,a2) (b1,b2)=false):=qh (by rw[HT.out];exact joinB_snoc_f HH.out.2 (.inl t1) (.inr t4))
       go_quiet (fail)
       go_wp2_with fail
       refine⟨⟨k+1,by omega,by go_num,qh ⟨HH.out.1.drewN _,HF.out⟩⟩,?_⟩
       simp[intOf];try omega
     ·have HF:Hid (joinB (l.take (k+1)) (a1,a2) (b1,b2)=false):=qh (by rw[HT.out];exact joinB_snoc_f HH.out.2 (.inl t1) (.inl t3))
      go_quiet (fail)
      go_wp2_with fail
      refine⟨⟨k+1,by omega,by go_num,qh ⟨HH.out.1.drewN _,HF.out⟩⟩,?_⟩
      simp[intOf];try omega
   ·obtain rfl:k=n:=by omega
    have hkz:¬(k:Int)<(k:Int):=by omega
    have HE:Hid (joinB l (a1,a2) (b1,b2)=false):=qh (by have:=HH.out.2;rwa [List.take_of_length_le (by rw[HLn.out];exact Nat.le_refl _)] at this)
    go_wp2_with fail
    go_ret
    exact⟨by rw[HE.out];rfl,HK.out.trans HH.out.1⟩
end Go.Proofs.YtpapiojicbbheaaGreatDoor

namespace Go.Proofs.YtpapiojicbbheaaGreatDoor
open Go.RowKit Go.ChangeShapes Go.WideShapes Go.ChangeAt
theorem ownk:ownKnob Tryz.prog.godebug=none:=by kernel_rfl
theorem laidOut:laidOutB Tryz.prog=true:=by kernel_rfl
section
variable {H:Type}{enc:TypeId×Value→H}{P:Program}{W:World}{b:Nat}{q:Reach}{spare:Nat→Bool}{held:Bool}{t:TypeId}{v:Value}{d:DataW H}{p:List MemPlace}{α:Type}
theorem arg_slice {r:Rep α} (ho:Rep.Opens P t r.list) {e:TypeId} (ht:P.underlying t=some (.slice e)) (hv:Value.okWide P W q b t v) (h:DataW.Trod enc P W 0 spare held t v d p) :
    ∃A n c l,v=.slice A n c∧r.Sl W W.heap.size A n c l:=by
  obtain⟨A,n,c,rfl⟩:=okWide_slice ht hv
  obtain⟨fuel,hf⟩:=h
  obtain⟨l,A',n',c',hcs,hsl⟩:=ho enc W _ _ _ _ _ hf
  have:Value.slice A n c=.slice A' n' c':=by simpa[Value.cells] using hcs
  injection this with h1 h2 h3
  subst h1;subst h2;subst h3
  exact⟨A,n,c,l,rfl,hsl⟩
theorem arg_int (ht:P.underlying t=some (.int .i64)) (hv:Value.okWide P W q b t v) (h:DataW.Trod enc P W 0 spare held t v d p) :
    ∃n,v=.int .i64 n∧-9223372036854775808≤n∧n≤9223372036854775807:=by
  obtain⟨n,rfl,_,_,hwf⟩:=open_int ht hv h
  have:-9223372036854775808≤n∧n≤9223372036854775807:=by simpa[Lit.wf,IntKind.min,IntKind.max,IntKind.signed,IntKind.bits] using hwf
  exact⟨n,rfl,this⟩
theorem arg_bool (ht:P.underlying t=some .bool) (hv:Value.okWide P W q b t v) (h:DataW.Trod enc P W 0 spare held t v d p):∃x,v=.bool x:=by
 obtain⟨n,rfl,_⟩:=open_bool ht hv h
 exact⟨n,rfl⟩
theorem arg_struct {r:Rep α} (ho:Rep.Opens P t r) {fs:Array Field} (ht:P.underlying t=some (.struct fs)) (hv:Value.okWide P W q b t v) (h:DataW.Trod enc P W 0 spare held t v d p) :
    ∃cs a,v=.agg cs∧r.cells W W.heap.size a cs.toList:=by
  obtain⟨cs,rfl,_⟩:=okWide_struct ht hv
  obtain⟨fuel,hf⟩:=h
  obtain⟨a,ha⟩:=ho enc W _ _ _ _ _ hf
  exact⟨cs,a,rfl,ha⟩
theorem trodAll_below (hl:laidOutB P=true) {W':World} (hb:Below W.heap.size W W'):∀{ts:List TypeId}{vs:List Value}{ds:List (DataW H)}{p:List MemPlace},
    (ts.all fun t=>P.readableRec t&&decide (t<P.types.size))=true→DataW.TrodAll enc P W 0 (fun _=>true) true ts vs ds p→(∀x∈p,x.block<W.heap.size) →
    DataW.TrodAll enc P W' 0 (fun b=>decide (b<W.heap.size)) true ts vs ds p:=by
  intro ts
  induction ts with
  | nil=>
   intro vs ds p _ h _
   obtain⟨rfl,rfl,rfl⟩:=trodAll_nil h
   rfl
  | cons t ts ih=>
   intro vs ds p ht h hp
   obtain⟨v,vs',d,ds',p1,p2,rfl,rfl,rfl,h1,h2⟩:=trodAll_cons h
   simp only[List.all_cons,Bool.and_eq_true,decide_eq_true_eq] at ht
   exact⟨p1,p2,Below.trod hl ht.1.1 ht.1.2 h1 hb (fun x hx=>hp x (by simp[hx])),ih ht.2 h2 (fun x hx=>hp x (by simp[hx])),rfl⟩
theorem law_post {f:Func}{s:ChangeSpec} (hl:laidOutB P=true) (hts:(f.params.toList.all fun t=>P.readableRec t&&decide (t<P.types.size))=true) {bt:TypeId} (hrt:f.resultTypes=#[bt]) (hbt:P.underlying bt=some .bool)
    (hvars:s.vars=[]) {args:Array Value}{ds gs:List (DataW H)}{before:List MemPlace} (hW:DataW.Whole enc P f.params.toList s.vars false W args.toList ds gs before)
    (hs:s.fn H ds={ results:=[.lit (.bool true)],args:=ds }) {W':World} (hb:Below W.heap.size W W'):s.post enc P f false true false false W args (.bool true) W':=by
  have hW0:=hW
  obtain⟨p,q,hA,hV,hp,hfz,hnd⟩:=hW
  rw[hvars] at hV
  obtain⟨rfl,rfl⟩:=trodVars_none hV
  rw[List.append_nil] at hp
  subst hp
  refine⟨ds,[],before,[],before,[],hW0,?_,?_,?_,hb.frame _,fun h=>by cases h⟩
  ·rw[List.append_nil,hs,hrt]
   exact trodAll_mk1 (shut_bool hbt true)
  ·rw[List.append_nil,hs]
   exact trodAll_below hl hb hts hA (fun x hx=>hW0.lt x hx)
  ·rw[List.append_nil,hs,hvars]
   rfl
end
end Go.Proofs.YtpapiojicbbheaaGreatDoor

namespace Go.Proofs.YtpapiojicbbheaaGreatDoor
open Go.RowKit Go.Maps Go.WideShapes Go.WideMaps
def stpV (s:Stp):Value:=.agg #[.int .i64 s.1,.bool s.2]
def kS (s:Stp):Lit:=.string (keyBytes [.int .i64 s.1,.bool s.2])
set_option maxRecDepth 100000 in
theorem wideStp:(match Tryz.prog.underlying 30 with | some (.array _ _) | some (.struct _)=>true | _=>false)=true:=by kernel_rfl
set_option maxRecDepth 100000 in
theorem rowStp:(30 : TypeId) < Tryz.prog.types.size:=of_decide_eq_true (by kernel_rfl)
set_option maxRecDepth 100000 in
theorem lawStp:Keyed Tryz.prog 30 := Keyed.of_law (deep_law_laid laidOut (m:=3) (by omega) rowStp (by kernel_rfl) wideStp)
set_option maxRecDepth 100000 in
theorem keyTypeStp:Tryz.prog.keyType 30 = true:=by kernel_rfl
set_option maxRecDepth 100000 in
theorem cellsStp:Tryz.prog.cellsOf 30 = 2:=by kernel_rfl
set_option maxRecDepth 100000 in
theorem cellsInt:Tryz.prog.cellsOf 3 = 1:=by kernel_rfl
set_option maxRecDepth 100000 in
theorem cellsBool:Tryz.prog.cellsOf 4 = 1:=by kernel_rfl
set_option maxRecDepth 100000 in
theorem pred_of_lt {n k:Nat} (h:k<n):∃m,n=m+1:=⟨n - 1,by omega⟩
set_option maxRecDepth 100000 in
theorem typesSize:∃m,Tryz.prog.types.size=m+1:=pred_of_lt rowStp
set_option maxRecDepth 100000 in
theorem keyLits_stp (m:Nat) (s:Stp) (h:-9223372036854775808≤s.1∧s.1≤9223372036854775807):Tryz.prog.keyLits (m+2) 30 [.int .i64 s.1,.bool s.2]=some [.int .i64 s.1,.bool s.2]:=by
 have hw:(Lit.int .i64 s.1).wf=true:=by simp[Lit.wf,IntKind.min,IntKind.max,IntKind.bits,IntKind.signed];omega
 have h1:Tryz.prog.keyLits (m+1) 3 [.int .i64 s.1]=some [.int .i64 s.1]:=by
  unfold Program.keyLits;rw[Tryz.underlying3];simp[hw]
 have h2:Tryz.prog.keyLits (m+1) 4 [.bool s.2]=some [.bool s.2]:=by
  unfold Program.keyLits;rw[Tryz.underlying4]
 unfold Program.keyLits
 rw[Tryz.underlying30]
 simp only[cellsStp]
 simp[cellsInt,cellsBool,h1,h2]
set_option maxRecDepth 100000 in
theorem keyOf_stp (s:Stp) (h:-9223372036854775808≤s.1∧s.1≤9223372036854775807):keyOf Tryz.prog 30 (stpV s)=some (kS s):=by
 obtain⟨m,hm⟩:=typesSize
 have hf:(stpV s).formed Tryz.prog 30 = true:=by simp[stpV,Value.formed,Tryz.underlying30, cellsStp]
 unfold keyOf
 rw[Tryz.underlying30]
 simp only[keyTypeStp,hf,Bool.and_self,if_true,hm]
 have:=keyLits_stp m s h
 simp only[stpV,Value.cells]
 rw[this]
 rfl
set_option maxRecDepth 100000 in
theorem keyOf_inv {v:Value}{l:Lit} (h:keyOf Tryz.prog 30 v=some l):∃s:Stp,v=stpV s∧-9223372036854775808≤s.1∧s.1≤9223372036854775807:=by
 obtain⟨m,hm⟩:=typesSize
 obtain⟨xs,L,rfl,h1,-⟩:=keyOf_top wideStp h
 rw[hm] at h1
 unfold Program.keyLits at h1
 rw[Tryz.underlying30] at h1
 simp only[cellsStp] at h1
 split at h1
 ·rename_i hc
  obtain⟨l⟩:=xs
  match l,hc.1 with
  | [x,y],_=>
   simp[cellsInt,cellsBool] at h1
   cases hp:Tryz.prog.keyLits (m+1) 3 [x] with
   | none=>rw[hp] at h1;simp at h1
   | some p=>
    cases hq:Tryz.prog.keyLits (m+1) 4 [y] with
    | none=>rw[hp,hq] at h1;simp at h1
    | some q=>
     unfold Program.keyLits at hp hq
     rw[Tryz.underlying3] at hp
     rw[Tryz.underlying4] at hq
     cases x <;> simp at hp
     cases y <;> simp at hq
     obtain⟨⟨rfl,hw⟩,_⟩:=hp
     simp[Lit.wf,IntKind.min,IntKind.max,IntKind.bits,IntKind.signed] at hw
     exact⟨(_,_),rfl,by simp only;omega,by simp only;omega⟩
 ·cases h1
set_option maxRecDepth 100000 in
theorem kS_inj {s u:Stp} (hs:-9223372036854775808≤s.1∧s.1≤9223372036854775807) (hu:-9223372036854775808≤u.1∧u.1≤9223372036854775807) (h:kS s=kS u):s=u:=by
 have h1:=keyOf_stp s hs
 have h2:=keyOf_stp u hu
 rw[h] at h1
 have:=lawStp.inj h1 h2
 unfold stpV at this
 injection this with this
 simp at this
 exact Prod.ext this.1 this.2
noncomputable abbrev elB:Value→Option (DataW Unit×List MemPlace):=plainElem Tryz.prog 4
set_option maxRecDepth 100000 in
theorem elB_inv (v:Value) (y:DataW Unit×List MemPlace) (h:elB v=some y):∃c:Bool,v=.bool c:=by
 unfold elB plainElem at h
 rw[Tryz.underlying4] at h
 cases v <;> simp at h
 exact⟨_,rfl⟩
def in64 (s:Stp):Prop:=-9223372036854775808≤s.1∧s.1≤9223372036854775807
def SetAt (w:World) (b n:Nat) (ks:Stp→Prop):Prop:=∃D:DataW Unit,w.ownsMap Tryz.prog 30 elB b n D∧(∀s,in64 s→(has D (kS s)=true↔ks s))∧IsMap D
set_option maxRecDepth 100000 in
theorem SetAt.keep {S:Nat→Prop}{w w':World}{b n:Nat}{ks:Stp→Prop} (h:SetAt w b n ks) (hk:Keep S w w') (hS:¬S b):SetAt w' b n ks:=by
 obtain⟨D,ho,h1,h2⟩:=h
 have hlt:=ho.lt
 obtain⟨es,clock,hb,F,hs,hD⟩:=ho
 exact⟨D,⟨es,clock,(hk.block b hlt hS).trans hb,F,hs,hD⟩,h1,h2⟩
set_option maxRecDepth 100000 in
theorem SetAt.lt {w:World}{b n:Nat}{ks:Stp→Prop} (h:SetAt w b n ks):b<w.heap.size:=by obtain⟨D,ho,_⟩:=h;exact ho.lt
set_option maxRecDepth 100000 in
theorem SetAt.congr {w:World}{b n m:Nat}{ks ks':Stp→Prop} (h:SetAt w b n ks) (hn:n≤m) (hk:∀u,in64 u→(ks u↔ks' u)):SetAt w b m ks':=by
 obtain⟨D,ho,h1,h2⟩:=h
 exact⟨D,ho.mono hn,fun u hu=>(h1 u hu).trans (hk u hu),h2⟩
set_option maxRecDepth 100000 in
theorem SetAt.made (w:World):SetAt (w.alloc (.map #[] 0)) w.heap.size 0 (fun _=>False):=
  ⟨.map [],World.ownsMap_made _ _ _ _,fun s _=>by simp[has],isMap_empty⟩
set_option maxRecDepth 100000 in
theorem keep_grown {w w':World}{b:Nat} (h:w.grownBy w' (some b)):Keep (fun k=>k=b) w w':=⟨h.os,h.tape,h.output,h.size,fun k hk hn=>h.block k hk (fun e=>hn (by injection e))⟩
set_option maxRecDepth 100000 in
theorem keep_grown0 {w w':World} (h:w.grownBy w' none):Keep Never w w':=⟨h.os,h.tape,h.output,h.size,fun k hk _=>h.block k hk (fun e=>by cases e)⟩
section
variable (w:World) {ops:Array Oper}{rest:List Oper}{o:Oper}{a:Act}{Q:Exit→Act→World→Prop}
set_option maxRecDepth 100000 in
theorem wpList_put (hg:o.guard=none) (m x v:Operand) (hop:o.op=Op.mapUpdate 130 m x v) (b n:Nat) (ks:Stp→Prop) (hm:a.eval m=.map (some b)) (hs:SetAt w b n ks) (hn:n<maxLen)
    (s:Stp) (hx:a.eval x=stpV s) (h64:in64 s) (hv:a.eval v=.bool true)
    (hK:∀w',SetAt w' b (n+1) (fun u=>ks u∨u=s)→Keep (fun k=>k=b) w w'→wpList Tryz.prog ops Q rest (a.put o.dst undef) w'):wpList Tryz.prog ops Q (o::rest) a w:=by
  obtain⟨D,ho,h1,h2⟩:=hs
  refine wpList_mapUpdate_own w hg m x v _ hop 30 4 lawStp Tryz.underlying130 elB b n D hm ho hn (stpV s) (.bool true) (kS s) hx hv (keyOf_stp s h64) _ [] (plainElem_bool Tryz.underlying4 true) ?_
  intro w' ho' hg'
  refine hK w' ⟨_,ho',fun u hu=>?_,h2.put _ _⟩ (keep_grown hg')
  by_cases e:u=s
  ·subst e
   simp[has_put_same h2 (lawStp.key (keyOf_stp u h64))]
  ·have hne:kS u≠kS s:=fun h=>e (kS_inj hu h64 h)
   rw[has_put_other hne,h1 u hu]
   simp[e]
def RngAt (w:World) (b r n:Nat) (ks left:Stp→Prop) (cnt:Nat):Prop:=∃(D:DataW Unit) (lf:Lit→Bool),w.ranges Tryz.prog 30 elB b r n D lf cnt∧(∀s,in64 s→(has D (kS s)=true↔ks s))∧(∀s,in64 s→(lf (kS s)=true↔left s))
set_option maxRecDepth 100000 in
theorem RngAt.left_eq {w:World}{b r n:Nat}{ks left:Stp→Prop}{cnt:Nat} (h:RngAt w b r n ks left cnt):w.rangeLeft b r=cnt:=by obtain⟨D,lf,hr,_⟩:=h;exact hr.left_eq
set_option maxRecDepth 100000 in
theorem RngAt.keep {S:Nat→Prop}{w w':World}{b r n:Nat}{ks left:Stp→Prop}{cnt:Nat} (h:RngAt w b r n ks left cnt) (hk:Keep S w w') (hb:¬S b) (hr:¬S r):RngAt w' b r n ks left cnt:=by
 obtain⟨D,lf,hrg,h1,h2⟩:=h
 have hl1:=hrg.owns.lt
 have hl2:=hrg.lt
 obtain⟨es,clock,since,seen,c0,hb',F,hs,hD,hr',rest⟩:=hrg
 exact⟨D,lf,⟨es,clock,since,seen,c0,(hk.block b hl1 hb).trans hb',F,hs,hD,(hk.block r hl2 hr).trans hr',rest⟩,h1,h2⟩
set_option maxRecDepth 100000 in
theorem wpList_rng (hg:o.guard=none) (m:Operand) (hop:o.op=Op.range 130 m) (b n:Nat) (ks:Stp→Prop) (hm:a.eval m=.map (some b)) (hs:SetAt w b n ks)
    (hK:∀w' cnt,RngAt w' b w.heap.size n ks ks cnt→cnt≤n→Keep Never w w'→w'.heap.size=w.heap.size+1→wpList Tryz.prog ops Q rest (a.put o.dst (.pointer (some ⟨w.heap.size,0,none⟩))) w'):wpList Tryz.prog ops Q (o::rest) a w:=by
  obtain⟨D,ho,h1,h2⟩:=hs
  have hsz:Maps.size D≤n:=by
   obtain⟨es,clock,hb,F,hs,rfl⟩:=ho
   simp only[Maps.size,length_sorted,List.length_map,Array.length_toList]
   exact hs
  refine wpList_range_own w hg m _ hop 30 4 lawStp Tryz.underlying130 elB b n D hm ho ?_
  intro w' hr hg' hsz'
  exact hK w' _ ⟨D,_,hr,h1,h1⟩ hsz (keep_grown0 hg') hsz'
set_option maxRecDepth 100000 in
theorem wpList_nxt (hg:o.guard=none) (it:Operand) (hop:o.op=Op.next it false) (b r n:Nat) (ks left:Stp→Prop) (cnt:Nat) (hit:a.eval it=.pointer (some ⟨r,0,none⟩)) (h:RngAt w b r n ks left cnt)
    (hDone:cnt=0→(∀s,in64 s→¬left s)→wpList Tryz.prog ops Q rest (a.put o.dst (.tuple #[.bool false])) w)
    (hMore:∀(s:Stp) (c:Bool) (w':World) (cnt':Nat),in64 s→left s→RngAt w' b r n ks (fun u=>left u∧u≠s) cnt'→cnt'<cnt→Keep (fun k=>k=r) w w'→Hid (w'.heap.size=w.heap.size) →
      (Instr.entry (.pointer (some ⟨r,0,none⟩))).run Tryz.prog w'=.ok (.tuple #[.agg #[.int .i64 s.1,.bool s.2],.bool c]) w'→wpList Tryz.prog ops Q rest (a.put o.dst (.tuple #[.bool true,.agg #[.int .i64 s.1,.bool s.2],.bool c])) w') :
    wpList Tryz.prog ops Q (o::rest) a w:=by
  obtain⟨D,lf,hrg,h1,h2⟩:=h
  refine wpList_next_ranges w hg it hop 30 lawStp elB (fun s:Stp=>stpV s) (fun c:Bool=>.bool c) (fun key kl hk=>(keyOf_inv hk).imp fun s h=>h.1) (fun v y hv=>elB_inv v y hv) b r n D lf cnt hit hrg ?_ ?_
  ·intro h0 hl
   exact hDone h0 (fun s hs hx=>by rw[←h2 s hs,hl] at hx;cases hx)
  ·intro s c kl y w' cnt' hk hl hv hat hr' hlt hgr hsz hen
   obtain⟨s',he,h64⟩:=keyOf_inv hk
   have hss:s=s':=by
    unfold stpV at he
    injection he with he
    simp at he
    exact Prod.ext he.1 he.2
   subst hss
   have hkl:kl=kS s:=by
    have:=keyOf_stp s h64
    rw[hk] at this
    injection this
   subst hkl
   refine hMore s c w' cnt' h64 ((h2 s h64).1 hl) ⟨D,_,hr',h1,fun u hu=>?_⟩ hlt (keep_grown hgr) (qh hsz) hen
   rw[Bool.and_eq_true,h2 u hu]
   by_cases e:u=s
   ·subst e
    simp[WideAt.sameKey_self (lawStp.key (keyOf_stp u h64))]
   ·have hne:kS u≠kS s:=fun h=>e (kS_inj hu h64 h)
    simp[sameKey_ne hne,e]
end
end Go.Proofs.YtpapiojicbbheaaGreatDoor

namespace Go.Proofs.YtpapiojicbbheaaGreatDoor
open Go.RowKit
def stpCell (s:Stp):List Value:=[.int .i64 s.1,.bool s.2]
def stpCells (l:List Stp):List Value:=l.flatMap stpCell
theorem stpCells_cons (s:Stp) (l:List Stp):stpCells (s::l)=.int .i64 s.1::.bool s.2::stpCells l:=rfl
theorem stpCells_nil:stpCells []=[]:=rfl
theorem stpCells_app (l m:List Stp):stpCells (l++m)=stpCells l++stpCells m:=by simp[stpCells]
theorem len_stpCells (l:List Stp):(stpCells l).length=l.length*2:=by
 induction l with
 | nil=>rfl
 | cons s l ih=>rw[stpCells_cons];simp only[List.length_cons,ih];omega
theorem stpCells_one (l:List Stp):∀u∈stpCells l,u.oneCell'=true:=by
 induction l with
 | nil=>intro u hu;cases hu
 | cons s l ih=>
  intro u hu
  rw[stpCells_cons] at hu
  rcases List.mem_cons.1 hu with rfl | hu
  ·rfl
  rcases List.mem_cons.1 hu with rfl | hu
  ·rfl
  exact ih u hu
theorem stpCells_at:∀(l:List Stp) {i:Nat}{s:Stp},l[i]?=some s→(stpCells l)[i*2]?=some (.int .i64 s.1)∧(stpCells l)[i*2+1]?=some (.bool s.2):=by
 intro l
 induction l with
 | nil=>intro i s h;simp at h
 | cons y l ih=>
  intro i s h
  cases i with
  | zero=>simp only[List.getElem?_cons_zero,Option.some.injEq] at h;subst h;exact⟨rfl,rfl⟩
  | succ i=>
   simp only[List.getElem?_cons_succ] at h
   obtain⟨h1,h2⟩:=ih h
   rw[stpCells_cons,show (i+1)*2=i*2+1+1 by omega,show i*2+1+1+1=(i*2+1)+1+1 by omega]
   simp only[List.getElem?_cons_succ]
   exact⟨h1,h2⟩
theorem Rd.stp {w:World}{B n k:Nat}{A:Option Addr}{l:List Stp} (h:Rd w B 2 A n (stpCells l)) (hk:k<n):∃ad s,A=some ad∧ad.block<B∧l[k]?=some s∧w.cell? (ad.add (k*2))=some (.int .i64 s.1) ∧
    w.cell? ⟨(ad.add (k*2)).block,(ad.add (k*2)).off+1,none⟩=some (.bool s.2):=by
  obtain⟨ad,e,hb,hc⟩:=h.2 (by omega)
  have hl:k<l.length:=by have:=h.1;rw[len_stpCells] at this;omega
  have hs:l[k]?=some l[k]:=List.getElem?_eq_getElem hl
  obtain⟨a0,a1⟩:=stpCells_at l hs
  have c0:=hc _ _ a0
  have c1:=hc _ _ a1
  rw[fld _ _ (by omega)] at c1
  exact⟨ad,l[k],e,hb,hs,c0,c1⟩
theorem Rd.stp_len {w:World}{B n:Nat}{A:Option Addr}{l:List Stp} (h:Rd w B 2 A n (stpCells l)):l.length=n:=by have:=h.1;rw[len_stpCells] at this;omega
theorem stps_rd {w:World}{B n c:Nat}{A:Option Addr}{l:List Stp} (h:repStp.Sl w B A n c l):Rd w B 2 A n (stpCells l)∧n=l.length∧n≤c∧c≤maxLen∧(A=none→c=0)∧∀s∈l,in64 s:=by
 obtain⟨h1,h2,h3,h4,css,h5,h6⟩:=h
 have hf:css.flatten=stpCells l∧∀s∈l,in64 s:=by
  clear h5 h1
  induction l generalizing css with
  | nil=>cases css with
    | nil=>simp[stpCells_nil]
    | cons b m=>exact h6.elim
  | cons a l ih=>cases css with
    | nil=>exact h6.elim
    | cons b m=>
     obtain⟨e1,e2⟩:=ih m h6.2
     obtain⟨c1,d1,rfl,⟨rfl,h1⟩,rfl⟩:=h6.1
     refine⟨by rw[List.flatten_cons,e1];rfl,fun s hs=>?_⟩
     rcases List.mem_cons.1 hs with rfl | hs
     ·exact h1
     ·exact e2 s hs
 exact⟨by rw[←hf.1];exact h5,h1,h2,h3,h4,hf.2⟩
theorem stps_sl {w:World}{B n c:Nat}{A:Option Addr}{l:List Stp} (h:Rd w B 2 A n (stpCells l)) (hn:n≤c) (hc:c≤maxLen) (hA:A=none→c=0) (h64:∀s∈l,in64 s):repStp.Sl w B A n c l:=by
 refine⟨h.stp_len.symm,hn,hc,hA,l.map stpCell,?_,?_⟩
 ·have:(l.map stpCell).flatten=stpCells l:=by simp[stpCells,List.flatMap]
  rw[this];exact h
 ·clear h
  induction l with
  | nil=>trivial
  | cons s l ih=>exact⟨⟨[.int .i64 s.1],[.bool s.2],rfl,⟨rfl,h64 s (by simp)⟩,rfl⟩,ih (fun u hu=>h64 u (by simp[hu]))⟩
theorem stps_own {w:World}{base n c:Nat}{A:Option Addr}{l:List Stp} (h:Own w base 30 2 A n c (stpCells l)) (h64:∀s∈l,in64 s):repStp.Sl w w.heap.size A n c l:=by
 refine stps_sl h.rd h.cap_le ?_ (fun e=>?_) h64
 ·rcases h.form with⟨_,_,h2,_⟩ | ⟨_,_,_,_,_,_,h2,_⟩
  ·omega
  ·exact h2
 ·rcases h.form with⟨_,_,h2,_⟩ | ⟨_,_,h2,_⟩
  ·exact h2
  ·rw[e] at h2;cases h2
set_option maxRecDepth 100000 in
theorem elemStp:Elem Tryz.prog 35 30 2 16:=⟨Tryz.underlying35, _,_,rfl,rfl,rfl,rfl,rfl,by omega⟩
end Go.Proofs.YtpapiojicbbheaaGreatDoor

namespace Go.Proofs.YtpapiojicbbheaaGreatDoor
open Go.RowKit
def ltT (s u:Stp):Prop:=s.1<u.1∨(s.1=u.1∧s.2=false∧u.2=true)
theorem ltT_irrefl (s:Stp):¬ltT s s:=by rintro(h | ⟨_,h1,h2⟩);omega;rw[h1] at h2;cases h2
theorem ltT_trans {s u v:Stp} (h1:ltT s u) (h2:ltT u v):ltT s v:=by
 rcases h1 with h1 | ⟨h1,h3,h4⟩ <;> rcases h2 with h2 | ⟨h2,h5,h6⟩
 ·left;omega
 ·left;omega
 ·left;omega
 ·rw[h4] at h5;cases h5
theorem rise_one:∀{l m:List Stp},l.Pairwise ltT→m.Pairwise ltT→(∀s,s∈l↔s∈m)→l=m
  | [],[],_,_,_=>rfl
  | [],u::m,_,_,h=>by have:=(h u).2 (by simp);simp at this
  | s::l,[],_,_,h=>by have:=(h s).1 (by simp);simp at this
  | s::l,u::m,h1,h2,h=>by
   obtain⟨a1,a2⟩:=List.pairwise_cons.1 h1
   obtain⟨b1,b2⟩:=List.pairwise_cons.1 h2
   have e:s=u:=by
    rcases List.mem_cons.1 ((h s).1 (by simp)) with e | e
    ·exact e
    ·rcases List.mem_cons.1 ((h u).2 (by simp)) with e' | e'
     ·exact e'.symm
     ·exact absurd (ltT_trans (a1 u e') (b1 s e)) (ltT_irrefl s)
   subst e
   rw[rise_one a2 b2 fun v=>?_]
   constructor
   ·intro hv
    rcases List.mem_cons.1 ((h v).1 (by simp[hv])) with e | e
    ·subst e;exact absurd (a1 v hv) (ltT_irrefl v)
    ·exact e
   ·intro hv
    rcases List.mem_cons.1 ((h v).2 (by simp[hv])) with e | e
    ·subst e;exact absurd (b1 v hv) (ltT_irrefl v)
    ·exact e
def pairM (J:List Jt) (s:Stp) (i:Nat):List Stp:=(if mayJ J s ((i:Int),false)=true then [((i:Int),false)] else [])++(if mayJ J s ((i:Int),true)=true then [((i:Int),true)] else [])
def listM (J:List Jt) (s:Stp) (k:Nat):List Stp:=(List.range k).flatMap (pairM J s)
def afterM (t:Tp) (s:Stp):List Stp:=if thereB t.1.length s.1=true then listM t.2.1 s t.1.length else []
theorem listM_succ (J:List Jt) (s:Stp) (k:Nat):listM J s (k+1)=listM J s k++pairM J s k:=by simp[listM,List.range_succ,List.flatMap_append]
theorem pairM_mem {J:List Jt}{s u:Stp}{i:Nat}:u∈pairM J s i↔u.1=(i:Int)∧mayJ J s u=true:=by
 obtain⟨e,r⟩:=u
 unfold pairM
 rw[List.mem_append]
 constructor
 ·rintro(h | h)
  ·split at h
   ·rename_i hm;simp at h;obtain⟨rfl,rfl⟩:=h;exact⟨rfl,hm⟩
   ·simp at h
  ·split at h
   ·rename_i hm;simp at h;obtain⟨rfl,rfl⟩:=h;exact⟨rfl,hm⟩
   ·simp at h
 ·rintro⟨h1,h2⟩
  simp only at h1
  subst h1
  cases r
  ·left;rw[if_pos h2];simp
  ·right;rw[if_pos h2];simp
theorem listM_mem {J:List Jt}{s u:Stp}{k:Nat}:u∈listM J s k↔thereB k u.1=true∧mayJ J s u=true:=by
 unfold listM thereB
 rw[List.mem_flatMap,Bool.and_eq_true,decide_eq_true_eq,decide_eq_true_eq]
 constructor
 ·rintro⟨i,hi,h⟩
  obtain⟨h1,h2⟩:=pairM_mem.1 h
  rw[List.mem_range] at hi
  exact⟨by omega,h2⟩
 ·rintro⟨h1,h2⟩
  exact⟨u.1.toNat,List.mem_range.2 (by omega),pairM_mem.2 ⟨by omega,h2⟩⟩
theorem pairM_rise (J:List Jt) (s:Stp) (i:Nat):(pairM J s i).Pairwise ltT:=by
 unfold pairM
 split <;> split <;> simp[ltT]
theorem listM_rise (J:List Jt) (s:Stp):∀k,(listM J s k).Pairwise ltT
  | 0=>by simp[listM]
  | k+1=>by
   rw[listM_succ,List.pairwise_append]
   refine⟨listM_rise J s k,pairM_rise J s k,fun u hu v hv=>?_⟩
   have h1:=(listM_mem.1 hu).1
   have h2:=(pairM_mem.1 hv).1
   unfold thereB at h1
   rw[Bool.and_eq_true,decide_eq_true_eq,decide_eq_true_eq] at h1
   left;omega
theorem listM_len (J:List Jt) (s:Stp) (k:Nat):(listM J s k).length≤2*k:=by
 induction k with
 | zero=>simp[listM]
 | succ k ih=>
  rw[listM_succ,List.length_append]
  have:(pairM J s k).length≤2:=by unfold pairM;split <;> split <;> simp
  omega
theorem afterM_mem {t:Tp}{s u:Stp}:u∈afterM t s↔thereB t.1.length s.1=true∧thereB t.1.length u.1=true∧mayJ t.2.1 s u=true:=by
 unfold afterM;split
 ·rename_i h;rw[listM_mem];simp[h]
 ·rename_i h;simp[h]
theorem after_one {t:Tp}{s:Stp} (ht:thereB t.1.length s.1=true) {l:List Stp} (h:l.Pairwise ltT) (hm:∀u,u∈l↔thereB t.1.length u.1=true∧mayJ t.2.1 s u=true):l=afterM t s:=by
 unfold afterM
 rw[if_pos ht]
 exact rise_one h (listM_rise _ _ _) fun u=>(hm u).trans listM_mem.symm
theorem there_in {n:Nat}{x:Int} (h:thereB n x=true):0≤x∧x<(n:Int):=by
 unfold thereB at h;rwa [Bool.and_eq_true,decide_eq_true_eq,decide_eq_true_eq] at h
end Go.Proofs.YtpapiojicbbheaaGreatDoor

namespace Go.Proofs.YtpapiojicbbheaaGreatDoor
open Go.Proofs Go.Shelf
def sortSt_ren:Go.Shelf.Ren:=⟨fun | 6 => 86 | 15 => 135 | 14 => 134 | 28 => 183 | 29 => 184 | 20 => 175 | 21 => 176 | 22 => 177 | 23 => 178 | 24 => 179 | 25 => 180 | 26 => 181 | 27 => 182 | 46 => 206 | 47 => 207 | 48 => 208 | 49 => 209 | 50 => 210 | 57 => 224 | n=>n,fun | 22 => 35 | 24 => 30 | 25 => 141 | 3 => 3 | 39 => 168 | 0 => 0 | 53 => 224 | 55 => 226 | 4 => 4 | 46 => 217 | 45 => 216 | 50 => 221 | 5 => 5 | 9 => 9 | 66 => 250 | 70 => 254 | 76 => 266 | 77 => 53 | n=>n,fun | n=>n⟩
theorem sortSt:Go.Proofs.SlLaysF0.n6 Tryz.prog sortSt_ren:={
  mixed:=by kernel_rfl
  f6:=⟨Tryz.f86.name,by decide,Tryz.func86.trans (congrArg some (by kernel_rfl))⟩
  f14:=⟨Tryz.f134.name,by decide,Tryz.func134.trans (congrArg some (by kernel_rfl))⟩
  f15:=Tryz.func135.trans (congrArg some (by kernel_rfl))
  f20:=⟨Tryz.f175.name,by decide,Tryz.func175.trans (congrArg some (by kernel_rfl))⟩
  f21:=⟨Tryz.f176.name,by decide,Tryz.func176.trans (congrArg some (by kernel_rfl))⟩
  f22:=⟨Tryz.f177.name,by decide,Tryz.func177.trans (congrArg some (by kernel_rfl))⟩
  f23:=⟨Tryz.f178.name,by decide,Tryz.func178.trans (congrArg some (by kernel_rfl))⟩
  f24:=⟨Tryz.f179.name,by decide,Tryz.func179.trans (congrArg some (by kernel_rfl))⟩
  f25:=⟨Tryz.f180.name,by decide,Tryz.func180.trans (congrArg some (by kernel_rfl))⟩
  f26:=⟨Tryz.f181.name,by decide,Tryz.func181.trans (congrArg some (by kernel_rfl))⟩
  f27:=⟨Tryz.f182.name,by decide,Tryz.func182.trans (congrArg some (by kernel_rfl))⟩
  f28:=Tryz.func183.trans (congrArg some (by kernel_rfl))
  f29:=Tryz.func184.trans (congrArg some (by kernel_rfl))
  f46:=⟨Tryz.f206.name,by decide,Tryz.func206.trans (congrArg some (by kernel_rfl))⟩
  f47:=Tryz.func207.trans (congrArg some (by kernel_rfl))
  f48:=Tryz.func208.trans (congrArg some (by kernel_rfl))
  f49:=⟨Tryz.f209.name,by decide,Tryz.func209.trans (congrArg some (by kernel_rfl))⟩
  f50:=⟨Tryz.f210.name,by decide,Tryz.func210.trans (congrArg some (by kernel_rfl))⟩
  f57:=⟨Tryz.f224.name,by decide,Tryz.func224.trans (congrArg some (by kernel_rfl))⟩
  t0:=Tryz.underlying0
  a0:=Tryz.isAgg0
  z0:=Tryz.sizeOf0
  v0:=Tryz.zeroValue0
  t3:=Tryz.underlying3
  a3:=Tryz.isAgg3
  z3:=Tryz.sizeOf3
  v3:=Tryz.zeroValue3
  t4:=Tryz.underlying4
  a4:=Tryz.isAgg4
  z4:=Tryz.sizeOf4
  v4:=Tryz.zeroValue4
  t5:=Tryz.underlying5
  a5:=Tryz.isAgg5
  z5:=Tryz.sizeOf5
  v5:=Tryz.zeroValue5
  t9:=Tryz.underlying9
  a9:=Tryz.isAgg9
  z9:=Tryz.sizeOf9
  v9:=Tryz.zeroValue9
  t22:=Tryz.underlying35
  a22:=Tryz.isAgg35
  z22:=Tryz.sizeOf35
  v22:=Tryz.zeroValue35
  t25:=Tryz.underlying141
  a25:=Tryz.isAgg141
  z25:=Tryz.sizeOf141
  v25:=Tryz.zeroValue141
  t39:=Tryz.underlying168
  a39:=Tryz.isAgg168
  z39:=Tryz.sizeOf168
  v39:=Tryz.zeroValue168
  t45:=Tryz.underlying216
  a45:=Tryz.isAgg216
  z45:=Tryz.sizeOf216
  v45:=Tryz.zeroValue216
  t46:=Tryz.underlying217
  a46:=Tryz.isAgg217
  z46:=Tryz.sizeOf217
  v46:=Tryz.zeroValue217
  t50:=Tryz.underlying221
  a50:=Tryz.isAgg221
  z50:=Tryz.sizeOf221
  v50:=Tryz.zeroValue221
  t53:=Tryz.underlying224
  a53:=Tryz.isAgg224
  z53:=Tryz.sizeOf224
  v53:=Tryz.zeroValue224
  t55:=Tryz.underlying226
  a55:=Tryz.isAgg226
  z55:=Tryz.sizeOf226
  v55:=Tryz.zeroValue226
  t66:=Tryz.underlying250
  a66:=Tryz.isAgg250
  z66:=Tryz.sizeOf250
  v66:=Tryz.zeroValue250
  t70:=Tryz.underlying254
  a70:=Tryz.isAgg254
  z70:=Tryz.sizeOf254
  v70:=Tryz.zeroValue254
  t76:=Tryz.underlying266
  a76:=Tryz.isAgg266
  z76:=Tryz.sizeOf266
  v76:=Tryz.zeroValue266
  t77:=Tryz.underlying53
  a77:=Tryz.isAgg53
  z77:=Tryz.sizeOf53
  v77:=Tryz.zeroValue53 }
end Go.Proofs.YtpapiojicbbheaaGreatDoor

namespace Go.Proofs.YtpapiojicbbheaaGreatDoor
abbrev Sp:=Int×Int×Int
def someS (s:Sp):Bool:=decide (0≤s.1)&&decide (0≤s.2.1)&&decide (s.2.1<s.2.2)&&decide (s.2.2≤1000000)
def hasS (s:Sp) (e a:Int):Bool:=decide (s.1=e)&&decide (s.2.1≤a)&&decide (a<s.2.2)
def hasL (l:List Sp) (e a:Int):Bool:=l.any fun s=>someS s&&hasS s e a
theorem someS_iff {s:Sp}:someS s=true↔0≤s.1∧0≤s.2.1∧s.2.1<s.2.2∧s.2.2≤1000000:=by
 unfold someS;simp[and_assoc]
theorem hasS_iff {s:Sp}{e a:Int}:hasS s e a=true↔s.1=e∧s.2.1≤a∧a<s.2.2:=by
 unfold hasS;simp[and_assoc]
theorem hasL_nil (e a:Int):hasL [] e a=false:=rfl
theorem hasL_app (l m:List Sp) (e a:Int):hasL (l++m) e a=(hasL l e a || hasL m e a):=by simp[hasL]
theorem hasL_cons (s:Sp) (l:List Sp) (e a:Int):hasL (s::l) e a=((someS s&&hasS s e a) || hasL l e a):=by simp[hasL]
theorem not_true_iff {b:Bool}:¬b=true↔b=false:=by cases b <;> simp
def keptM (which:Bool) (l:List (Sp×Bool)):List Sp:=(l.filter fun x=>x.2==which).map (·.1)
end Go.Proofs.YtpapiojicbbheaaGreatDoor

namespace Go.Proofs.YtpapiojicbbheaaGreatDoor
open Go.RowKit
def i64_ (n:Int):Prop:=-9223372036854775808≤n∧n≤9223372036854775807
def spIn (s:Sp):Prop:=i64_ s.1∧i64_ s.2.1∧i64_ s.2.2
def spCell (s:Sp):List Value:=[.int .i64 s.1,.int .i64 s.2.1,.int .i64 s.2.2]
def spCells (l:List Sp):List Value:=l.flatMap spCell
theorem spCells_cons (s:Sp) (l:List Sp):spCells (s::l)=.int .i64 s.1::.int .i64 s.2.1::.int .i64 s.2.2::spCells l:=rfl
theorem spCells_nil:spCells []=[]:=rfl
theorem spCells_app (l m:List Sp):spCells (l++m)=spCells l++spCells m:=by simp[spCells]
theorem len_spCells (l:List Sp):(spCells l).length=l.length*3:=by
 induction l with
 | nil=>rfl
 | cons s l ih=>rw[spCells_cons];simp only[List.length_cons,ih];omega
theorem spCells_at:∀(l:List Sp) {i:Nat}{s:Sp},l[i]?=some s→(spCells l)[i*3]?=some (.int .i64 s.1)∧(spCells l)[i*3+1]?=some (.int .i64 s.2.1)∧(spCells l)[i*3+2]?=some (.int .i64 s.2.2):=by
 intro l
 induction l with
 | nil=>intro i s h;simp at h
 | cons y l ih=>
  intro i s h
  cases i with
  | zero=>simp only[List.getElem?_cons_zero,Option.some.injEq] at h;subst h;exact⟨rfl,rfl,rfl⟩
  | succ i=>
   simp only[List.getElem?_cons_succ] at h
   obtain⟨h1,h2,h3⟩:=ih h
   rw[spCells_cons,show (i+1)*3=i*3+1+1+1 by omega,show i*3+1+1+1+1=(i*3+1)+1+1+1 by omega,show i*3+1+1+1+2=(i*3+2)+1+1+1 by omega]
   simp only[List.getElem?_cons_succ]
   exact⟨h1,h2,h3⟩
theorem Rd.sp {w:World}{B n k:Nat}{A:Option Addr}{l:List Sp} (h:Rd w B 3 A n (spCells l)) (hk:k<n):∃ad s,A=some ad∧ad.block<B∧l[k]?=some s∧w.cell? (ad.add (k*3))=some (.int .i64 s.1) ∧
    w.cell? ⟨(ad.add (k*3)).block,(ad.add (k*3)).off+1,none⟩=some (.int .i64 s.2.1)∧w.cell? ⟨(ad.add (k*3)).block,(ad.add (k*3)).off+2,none⟩=some (.int .i64 s.2.2):=by
  obtain⟨ad,e,hb,hc⟩:=h.2 (by omega)
  have hl:k<l.length:=by have:=h.1;rw[len_spCells] at this;omega
  have hs:l[k]?=some l[k]:=List.getElem?_eq_getElem hl
  obtain⟨a0,a1,a2⟩:=spCells_at l hs
  have c0:=hc _ _ a0
  have c1:=hc _ _ a1
  have c2:=hc _ _ a2
  rw[fld _ _ (by omega)] at c1 c2
  exact⟨ad,l[k],e,hb,hs,c0,c1,c2⟩
theorem Rd.sp_len {w:World}{B n:Nat}{A:Option Addr}{l:List Sp} (h:Rd w B 3 A n (spCells l)):l.length=n:=by have:=h.1;rw[len_spCells] at this;omega
def repSp:Rep Sp:=Rep.int.pair (Rep.int.pair Rep.int)
theorem repSp_cells {w:World}{B:Nat}{s:Sp}{cs:List Value} (h:repSp.cells w B s cs):cs=spCell s∧spIn s:=by
 obtain⟨c,d,rfl,⟨rfl,h1⟩,c',d',rfl,⟨rfl,h2⟩,⟨rfl,h3⟩⟩:=h
 exact⟨rfl,h1,h2,h3⟩
theorem sps_rd {w:World}{B n c:Nat}{A:Option Addr}{l:List Sp} (h:repSp.Sl w B A n c l):Rd w B 3 A n (spCells l)∧n=l.length∧n≤c∧c≤maxLen∧(A=none→c=0)∧∀s∈l,spIn s:=by
 obtain⟨h1,h2,h3,h4,css,h5,h6⟩:=h
 have hf:css.flatten=spCells l∧∀s∈l,spIn s:=by
  clear h5 h1
  induction l generalizing css with
  | nil=>cases css with
    | nil=>simp[spCells_nil]
    | cons b m=>exact h6.elim
  | cons a l ih=>cases css with
    | nil=>exact h6.elim
    | cons b m=>
     obtain⟨e1,e2⟩:=ih m h6.2
     obtain⟨e3,e4⟩:=repSp_cells h6.1
     refine⟨by rw[List.flatten_cons,e1,e3];rfl,fun s hs=>?_⟩
     rcases List.mem_cons.1 hs with rfl | hs
     ·exact e4
     ·exact e2 s hs
 exact⟨by rw[←hf.1];exact h5,h1,h2,h3,h4,hf.2⟩
end Go.Proofs.YtpapiojicbbheaaGreatDoor

namespace Go.Proofs.YtpapiojicbbheaaGreatDoor
open Go.RowKit
theorem run_from {P:Program}{t e size:Nat} (ht:P.underlying t=some (.slice e)) (hsz:∀w,(sizeOf e).run P w=.ok size w) (A:Option Addr) (n c k:Nat) (hk:k≤n) (x:Int) (hx:x=k) :
    ∃A' c',(∀w,(Instr.slice t (.slice A n c) (some (.int .i64 x)) none none).run P w=.ok (.slice A' (n - k) c') w)∧(∀w B xs,n≤c→Rd w B size A n xs→Rd w B size A' (n - k) (xs.drop (k*size)))∧(n≤c→n - k≤c')∧c'≤c∧(∀q,InRow A' q→InRow A q)∧A'=(if c=k then A else A.map (·.add (k*size)))∧c'=c - k:=by
  refine⟨if c=k then A else A.map (·.add (k*size)),c - k,fun w=>?_,fun w B xs hc h=>h.cut hk hc,fun h=>by omega,by omega,fun q hq=>?_,rfl,rfl⟩
  ·subst hx
   simp[Instr.slice,run_underlying ht,Instr.sliceBounds,Instr.sliceBound,asIntOf,hsz,hk,Result.andThen]
  ·obtain⟨ad,h1,h2⟩:=hq
   split at h1
   ·exact⟨ad,h1,h2⟩
   ·rcases A with _ | a0
    ·cases h1
    ·injection h1 with h1
     exact⟨a0,rfl,by rw[←h2,←h1,block_add]⟩
theorem wpList_from {P:Program}{w:World}{ops:Array Oper}{rest:List Oper}{o:Oper}{a:Act}{Q:Exit→Act→World→Prop} (hgd:o.guard=none) (s l:Operand) (t:TypeId) (ho:o.op=.slice t s (some l) none none)
    {e size:Nat} (ht:P.underlying t=some (.slice e)) (hsz:∀w,(sizeOf e).run P w=.ok size w) (A:Option Addr) (n c k:Nat) (hs:a.eval s=.slice A n c) (x:Int) (hl:a.eval l=.int .i64 x) (hx:x=k) (hk:k≤n)
    (h:∀A' c',Hid ((∀w B xs,n≤c→Rd w B size A n xs→Rd w B size A' (n - k) (xs.drop (k*size)))∧(n≤c→n - k≤c')∧c'≤c∧(∀q,InRow A' q→InRow A q))→wpList P ops Q rest (a.put o.dst (.slice A' (n - k) c')) w) :
    wpList P ops Q (o::rest) a w:=by
  obtain⟨A',c',h1,h2,h3,h4,h5,_⟩:=run_from (P:=P) ht hsz A n c k hk x hx
  refine wpList_plain hgd fun K hK=>?_
  unfold Oper.wp
  simp only[execOp,ho,Option.map_some,Option.map_none,hs,hl]
  have he:P.underlying t=some (.slice (P.elem t)):=by simp[Program.elem,ht]
  simp only[Sem.run_bind,run_sliceAt_slice _ _ _ _ _ _ he,h1,Result.andThen,Sem.run_pure,Oper.upon]
  exact hK _ _ (h A' c' ⟨h2,h3,h4,h5⟩)
end Go.Proofs.YtpapiojicbbheaaGreatDoor
