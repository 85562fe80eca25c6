/- Slices of slices: 's[i:j]' and 's[:j]' at the operation. -/
import Derived.Test.YtiebjnibmomcjaaDoorSlc
namespace Go.Proofs.YtiebjnibmomcjaaDoor
open Go.RowKit

/-- the front of a read slice -/
theorem Rd.front {w : World} {B size n k : Nat} {A : Option Addr} {xs : List Value} (h : Rd w B size A n xs) (hk : k ≤ n) : Rd w B size A k (xs.take (k * size)) := by
  refine ⟨?_, fun hp => ?_⟩
  · rw [List.length_take, h.1, Nat.min_eq_left (Nat.mul_le_mul_right _ hk)]
  · obtain ⟨ad, e, hb, hc⟩ := h.2 (by omega)
    refine ⟨ad, e, hb, fun j u hu => hc j u ?_⟩
    rw [List.getElem?_take] at hu
    split at hu
    · exact hu
    · cases hu

theorem run_cut {P : Program} {t e size : Nat} (ht : P.underlying t = some (.slice e)) (hsz : ∀ w, (sizeOf e).run P w = .ok size w) (A : Option Addr) (n c i j : Nat) (hij : i ≤ j) (hj : j ≤ n) (hc : n ≤ c) (lo : Option Value) (hlo : lo = some (.int .i64 i) ∨ lo = none ∧ i = 0) :
    ∃ A' c', (∀ w, (Instr.slice t (.slice A n c) lo (some (.int .i64 j)) none).run P w = .ok (.slice A' (j - i) c') w) ∧ (∀ w B xs, Rd w B size A n xs → Rd w B size A' (j - i) ((xs.take (j * size)).drop (i * size))) ∧ j - i ≤ c' ∧ c' ≤ c ∧ (∀ q, InRow A' q → InRow A q) := by
  have hjc : j ≤ c := by omega
  refine ⟨if c = i then A else A.map (·.add (i * size)), c - i, fun w => ?_, fun w B xs h => (h.front hj).cut hij hjc, by omega, by omega, fun q hq => ?_⟩
  · rcases hlo with rfl | ⟨rfl, rfl⟩
    · simp [Instr.slice, run_underlying ht, Instr.sliceBounds, Instr.sliceBound, asIntOf, hsz, hij, hjc, Result.andThen]
    · simp [Instr.slice, run_underlying ht, Instr.sliceBounds, Instr.sliceBound, asIntOf, hsz, hjc, Result.andThen]
  · obtain ⟨ad, h1, h2⟩ := hq
    split at h1
    · exact ⟨ad, h1, h2⟩
    · rcases A with _ | a0
      · cases h1
      · injection h1 with h1
        exact ⟨a0, rfl, by rw [← h2, ← h1, block_add]⟩

/-- 's[i:j]', at the operation -/
theorem wpList_cut {P : Program} {w : World} {ops : Array Oper} {rest : List Oper} {o : Oper} {a : Act} {Q : Exit → Act → World → Prop} (hgd : o.guard = none) (s l r : Operand) (t : TypeId) (ho : o.op = .slice t s (some l) (some r) none)
    {e size : Nat} (ht : P.underlying t = some (.slice e)) (hsz : ∀ w, (sizeOf e).run P w = .ok size w) (A : Option Addr) (n c i j m : Nat) (hs : a.eval s = .slice A n c) (x y : Int) (hl : a.eval l = .int .i64 x) (hr : a.eval r = .int .i64 y) (hx : x = i) (hy : y = j) (hm : j = i + m) (hj : j ≤ n) (hc : n ≤ c)
    (h : ∀ A' c', Hid ((∀ w B xs, Rd w B size A n xs → Rd w B size A' m ((xs.take (j * size)).drop (i * size))) ∧ m ≤ c' ∧ c' ≤ c ∧ (∀ q, InRow A' q → InRow A q)) → wpList P ops Q rest (a.put o.dst (.slice A' m c')) w) :
    wpList P ops Q (o :: rest) a w := by
  subst hx; subst hy
  have hij : i ≤ j := by omega
  obtain rfl : m = j - i := by omega
  obtain ⟨A', c', h1, h2, h3, h4, h5⟩ := run_cut (P := P) ht hsz A n c i j hij hj hc (some (.int .i64 i)) (.inl rfl)
  refine wpList_plain hgd fun K hK => ?_
  unfold Oper.wp
  simp only [execOp, ho, Option.map_some, Option.map_none, hs, hl, hr]
  have he : P.underlying t = some (.slice (P.elem t)) := by simp [Program.elem, ht]
  simp only [Sem.run_bind, run_sliceAt_slice _ _ _ _ _ _ he, h1, Result.andThen, Sem.run_pure, Oper.upon]
  exact hK _ _ (h A' c' ⟨h2, h3, h4, h5⟩)

/-- 's[:j]', at the operation -/
theorem wpList_upto {P : Program} {w : World} {ops : Array Oper} {rest : List Oper} {o : Oper} {a : Act} {Q : Exit → Act → World → Prop} (hgd : o.guard = none) (s r : Operand) (t : TypeId) (ho : o.op = .slice t s none (some r) none)
    {e size : Nat} (ht : P.underlying t = some (.slice e)) (hsz : ∀ w, (sizeOf e).run P w = .ok size w) (A : Option Addr) (n c j : Nat) (hs : a.eval s = .slice A n c) (y : Int) (hr : a.eval r = .int .i64 y) (hy : y = j) (hj : j ≤ n) (hc : n ≤ c)
    (h : ∀ A' c', Hid ((∀ w B xs, Rd w B size A n xs → Rd w B size A' j (xs.take (j * size))) ∧ j ≤ c' ∧ c' ≤ c ∧ (∀ q, InRow A' q → InRow A q)) → wpList P ops Q rest (a.put o.dst (.slice A' j c')) w) :
    wpList P ops Q (o :: rest) a w := by
  subst hy
  obtain ⟨A', c', h1, h2, h3, h4, h5⟩ := run_cut (P := P) ht hsz A n c 0 j (Nat.zero_le _) hj hc none (.inr ⟨rfl, rfl⟩)
  refine wpList_plain hgd fun K hK => ?_
  unfold Oper.wp
  simp only [execOp, ho, Option.map_some, Option.map_none, hs, hr]
  have he : P.underlying t = some (.slice (P.elem t)) := by simp [Program.elem, ht]
  simp only [Sem.run_bind, run_sliceAt_slice _ _ _ _ _ _ he, h1, Result.andThen, Sem.run_pure, Oper.upon]
  refine hK _ _ ?_
  rw [Nat.sub_zero] at *
  exact h A' c' ⟨fun w B xs hr => by simpa using h2 w B xs hr, h3, h4, h5⟩

end Go.Proofs.YtiebjnibmomcjaaDoor
