/- Chapter 15: the iterator of pieces. -/
import Derived.Test.YtpahfobijmmmmaaGreatSpnH
import Derived.RangeFuncNested
import Derived.RangeFuncBound
import Derived.RangeFuncCalls
import Derived.RangeFuncLeaves
import Derived.OwnWalkIn
import Derived.TacticsInMore
import Derived.LoopNIn
import Derived.LoopIn
import Derived.Laws.EntriesVeiled
namespace Go.Proofs.YtpahfobijmmmmaaGreat
open Go.RowKit

attribute [local go_sem] Oper.semAt_some

/-- what stands between two rounds: T are the blocks that the iterator keeps for itself -/
structure JOk (J : (Nat → Prop) → List (Sp × Bool) → World → Prop) : Prop where
  box : ∀ T T' pre W cs, J T pre W → (∀ q, T' q → T q ∨ q = W.heap.size) → J T' pre (W.alloc (.cells cs 74))
  weak : ∀ T T' pre W, J T pre W → (∀ q, T' q → T q) → J T' pre W
  put : ∀ T pre W q i v, J T pre W → T q → J T pre (W.setCell ⟨q, i, none⟩ v)
/-- no block -/
def NoB (_ : Nat) : Prop := False
/-- a round of the caller's -/
def RoundOk (F : Fence) (n l N : Nat) (Z : Nat → Prop) (J : (Nat → Prop) → List (Sp × Bool) → World → Prop) : Prop :=
  ∀ (T : Nat → Prop) (pre : List (Sp × Bool)) (x : Sp × Bool) (W : World), J T pre W → (∀ q, T q → q < W.heap.size) → pre.length < N →
    YieldAt F (n - 1) Tryz.prog l #[.agg #[.int .i64 x.1.1, .int .i64 x.1.2.1, .int .i64 x.1.2.2], .bool x.2] W fun e W' => e = .returned (.bool true) ∧ J T (pre ++ [x]) W' ∧ Keep (fun q => Z q ∧ ¬ T q) W W'

end Go.Proofs.YtpahfobijmmmmaaGreat

namespace Go.Proofs.YtpahfobijmmmmaaGreat
open Go.RowKit

attribute [local go_sem] Oper.semAt_some

/-- what the closure of kept leaves -/
def KeepRet (W : World) (ob base : Nat) (Ao : Option Addr) (out : List Sp) (W' : World) : Prop :=
  ∃ (A' : Option Addr) (n' c' : Nat), n' = out.length ∧ Blk W' ob 32 #[.slice A' n' c'] ∧ Own W' base 74 3 A' n' c' (spCells out) ∧ Keep (fun q => q = ob ∨ InRow Ao q) W W' ∧ ∀ q, InRow A' q → InRow Ao q ∨ W.heap.size ≤ q
/-- what stands between two rounds of kept: l and D are the loop's own blocks -/
structure KI (w : World) (ob : Nat) (which : Bool) (l : Nat) (lp : Loop) (T : Nat → Prop) (pre : List (Sp × Bool)) (W : World) : Prop where
  keep : Keep (fun q => q = ob ∨ w.heap.size ≤ q) w W
  mine : ∀ q, T q → w.heap.size ≤ q ∧ q ≠ l ∧ q ≠ w.heap.size ∧ q < W.heap.size
  row : ∃ (Ao : Option Addr) (no co : Nat), no = (keptM which pre).length ∧ Blk W ob 32 #[.slice Ao no co] ∧ Own W w.heap.size 74 3 Ao no co (spCells (keptM which pre)) ∧ ∀ q, InRow Ao q → ¬ T q
  loop : W.heap[l]? = some (.loop lp)
  dfr : W.heap[w.heap.size]? = some (.deferred (some []))
theorem own_other {w w' : World} {base e size n c : Nat} {A : Option Addr} {xs : List Value} (h : Own w base e size A n c xs) {S : Nat → Prop} (hk : Keep S w w') (hS : ∀ q o, S q → w.heap[q]? = some o → o.isCells = false) : Own w' base e size A n c xs := by
  refine h.keep hk (fun q hq hs => ?_)
  obtain ⟨ad, rfl, rfl⟩ := hq
  rcases h.form with ⟨h1, _⟩ | ⟨g', cur, h1, hg, hb, _⟩
  · cases h1
  · injection h1 with h1
    subst h1
    have := hS _ _ hs hb
    cases this
/-- a row's block holds cells -/
theorem Own.cells_of {w : World} {base e size n c : Nat} {A : Option Addr} {xs : List Value} (h : Own w base e size A n c xs) {q : Nat} (hq : InRow A q) {o : Obj} (ho : w.heap[q]? = some o) : o.isCells = true := by
  obtain ⟨ad, rfl, rfl⟩ := hq
  rcases h.form with ⟨h1, _⟩ | ⟨g', cur, h1, hg, hb, _⟩
  · cases h1
  · injection h1 with h1
    subst h1
    unfold Blk at hb
    rw [hb] at ho
    injection ho with ho
    subst ho
    rfl
theorem putObj_keep (W : World) (l : Nat) (o : Obj) (_hl : l < W.heap.size) : Keep (fun q => q = l) W (W.putObj l o) := by
  have hg := grownBy_putObj' W l o
  exact ⟨hg.os, hg.tape, hg.output, hg.size, fun k hk hn => hg.block k hk (fun e => hn (by injection e))⟩
namespace KI
variable {w W W' : World} {ob l : Nat} {which : Bool} {lp : Loop} {T T' : Nat → Prop} {pre : List (Sp × Bool)}
theorem lt (h : KI w ob which l lp T pre W) : l < W.heap.size ∧ w.heap.size < W.heap.size := ⟨(Array.getElem?_eq_some_iff.1 h.loop).1, (Array.getElem?_eq_some_iff.1 h.dfr).1⟩
theorem box (h : KI w ob which l lp T pre W) (cs : Array Value) (hT : ∀ q, T' q → T q ∨ q = W.heap.size) : KI w ob which l lp T' pre (W.alloc (.cells cs 74)) := by
  have hlt := h.lt
  refine ⟨h.keep.alloc _, fun q hq => ?_, ?_, (Below.heap_alloc W _ _ hlt.1).trans h.loop, (Below.heap_alloc W _ _ hlt.2).trans h.dfr⟩
  · rcases hT q hq with h' | rfl
    · have := h.mine q h'
      rw [World.size_alloc]
      omega
    · rw [World.size_alloc]
      exact ⟨by omega, by omega, by omega, by omega⟩
  · obtain ⟨Ao, no, co, h1, h2, h3, h4⟩ := h.row
    refine ⟨Ao, no, co, h1, h2.alloc _, h3.alloc _, fun q hq hq' => ?_⟩
    rcases hT q hq' with h' | rfl
    · exact h4 q hq h'
    · have := (h3.row hq).2; omega
theorem weak (h : KI w ob which l lp T pre W) (hT : ∀ q, T' q → T q) : KI w ob which l lp T' pre W := by
  refine ⟨h.keep, fun q hq => h.mine q (hT q hq), ?_, h.loop, h.dfr⟩
  obtain ⟨Ao, no, co, h1, h2, h3, h4⟩ := h.row
  exact ⟨Ao, no, co, h1, h2, h3, fun q hq hq' => h4 q hq (hT q hq')⟩
theorem put (h : KI w ob which l lp T pre W) (hob : ob < w.heap.size) {q : Nat} (hq : T q) (i : Nat) (v : Value) : KI w ob which l lp T pre (W.setCell ⟨q, i, none⟩ v) := by
  have hm := h.mine q hq
  refine ⟨h.keep.set_ (p := ⟨q, i, none⟩) (.inl (.inr hm.1)) v, fun q' h' => by have := h.mine q' h'; simpa [World.setCell] using this, ?_, (KeepsOthers.setCell W _ v).same _ _ h.loop rfl, (KeepsOthers.setCell W _ v).same _ _ h.dfr rfl⟩
  obtain ⟨Ao, no, co, h1, h2, h3, h4⟩ := h.row
  exact ⟨Ao, no, co, h1, h2.far (p := ⟨q, i, none⟩) (by simp only; omega) v, h3.far (p := ⟨q, i, none⟩) (fun k hk e => by simp only at e; subst e; exact h4 _ hk hq) v, h4⟩
/-- the record is turned -/
theorem turn (h : KI w ob which l lp T pre W) (hl : w.heap.size < l) (hob : ob < w.heap.size) (lp' : Loop) : KI w ob which l lp' T pre (W.putObj l (.loop lp')) := by
  have hlt := h.lt
  have hk := putObj_keep W l (.loop lp') hlt.1
  refine ⟨h.keep.trans (hk.mono (fun q _ e => .inr (by omega))), fun q' h' => by have := h.mine q' h'; have := hk.size; omega, ?_, World.putObj_heap_same hlt.1, (World.putObj_heap_other (by omega)).trans h.dfr⟩
  obtain ⟨Ao, no, co, h1, h2, h3, h4⟩ := h.row
  exact ⟨Ao, no, co, h1, h2.keep hk (by omega), own_other h3 hk (fun q o e ho => by subst e; rw [h.loop] at ho; injection ho with ho; subst ho; rfl), h4⟩
end KI

end Go.Proofs.YtpahfobijmmmmaaGreat

namespace Go.Proofs.YtpahfobijmmmmaaGreat
open Go.RowKit

attribute [local go_sem] Oper.semAt_some

end Go.Proofs.YtpahfobijmmmmaaGreat
