/- Slices of slices: the run of 's[i:]' and 's[i:j]' under one name. -/
import Derived.Test.YtiebjnibmomcjaaDoorMem
namespace Go.Proofs.YtiebjnibmomcjaaDoor
open Go.RowKit

theorem run_from {P : Program} {t e size : Nat} (ht : P.underlying t = some (.slice e)) (hsz : ∀ w, (sizeOf e).run P w = .ok size w) (A : Option Addr) (n c k : Nat) (hk : k ≤ n) (x : Int) (hx : x = k) :
    ∃ A' c', (∀ w, (Instr.slice t (.slice A n c) (some (.int .i64 x)) none none).run P w = .ok (.slice A' (n - k) c') w) ∧ (∀ w B xs, n ≤ c → Rd w B size A n xs → Rd w B size A' (n - k) (xs.drop (k * size))) ∧ (n ≤ c → n - k ≤ c') ∧ c' ≤ c ∧ (∀ q, InRow A' q → InRow A q) ∧ A' = (if c = k then A else A.map (·.add (k * size))) ∧ c' = c - k := by
  refine ⟨if c = k then A else A.map (·.add (k * size)), c - k, fun w => ?_, fun w B xs hc h => h.cut hk hc, fun h => by omega, by omega, fun q hq => ?_, rfl, rfl⟩
  · subst hx
    simp [Instr.slice, run_underlying ht, Instr.sliceBounds, Instr.sliceBound, asIntOf, hsz, hk, Result.andThen]
  · obtain ⟨ad, h1, h2⟩ := hq
    split at h1
    · exact ⟨ad, h1, h2⟩
    · rcases A with _ | a0
      · cases h1
      · injection h1 with h1
        exact ⟨a0, rfl, by rw [← h2, ← h1, block_add]⟩

/-- 's[i:]', at the operation: one way, whatever the capacity -/
theorem wpList_from {P : Program} {w : World} {ops : Array Oper} {rest : List Oper} {o : Oper} {a : Act} {Q : Exit → Act → World → Prop} (hgd : o.guard = none) (s l : Operand) (t : TypeId) (ho : o.op = .slice t s (some l) none none)
    {e size : Nat} (ht : P.underlying t = some (.slice e)) (hsz : ∀ w, (sizeOf e).run P w = .ok size w) (A : Option Addr) (n c k : Nat) (hs : a.eval s = .slice A n c) (x : Int) (hl : a.eval l = .int .i64 x) (hx : x = k) (hk : k ≤ n)
    (h : ∀ A' c', Hid ((∀ w B xs, n ≤ c → Rd w B size A n xs → Rd w B size A' (n - k) (xs.drop (k * size))) ∧ (n ≤ c → n - k ≤ c') ∧ c' ≤ c ∧ (∀ q, InRow A' q → InRow A q)) → wpList P ops Q rest (a.put o.dst (.slice A' (n - k) c')) w) :
    wpList P ops Q (o :: rest) a w := by
  obtain ⟨A', c', h1, h2, h3, h4, h5, _⟩ := run_from (P := P) ht hsz A n c k hk x hx
  refine wpList_plain hgd fun K hK => ?_
  unfold Oper.wp
  simp only [execOp, ho, Option.map_some, Option.map_none, hs, hl]
  have he : P.underlying t = some (.slice (P.elem t)) := by simp [Program.elem, ht]
  simp only [Sem.run_bind, run_sliceAt_slice _ _ _ _ _ _ he, h1, Result.andThen, Sem.run_pure, Oper.upon]
  exact hK _ _ (h A' c' ⟨h2, h3, h4, h5⟩)

end Go.Proofs.YtiebjnibmomcjaaDoor
