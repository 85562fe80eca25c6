/- A map[int]bool that the call has made, as a set of numbers: look-up, store. -/
import Derived.Test.YtiebjnibmomcjaaDoorMem
import Derived.Maps.OwnOps
import Derived.Maps.Views
namespace Go.Proofs.YtiebjnibmomcjaaDoor
open Go.RowKit Go.Maps

theorem plainElem_bool_inv {H : Type} {P : Program} {e : TypeId} (he : P.underlying e = some .bool) {v : Value} {z : DataW H × List MemPlace} (h : plainElem P e v = some z) : ∃ b, v = .bool b ∧ z = (.lit (.bool b), []) := by
  unfold plainElem at h
  rw [he] at h
  cases v <;> simp at h
  exact ⟨_, rfl, h.symm⟩

/-- block b of w is a map of at most n entries in which just the numbers of S are true -/
def SetAt (P : Program) (k e : TypeId) (w : World) (b n : Nat) (S : List Int) : Prop :=
  ∃ D : DataW Unit, w.ownsMap P k (plainElem P e) b n D ∧ Maps.IsMap D ∧ ∀ x : Int, D.atKey (.int .i64 x) (.lit (.bool false)) = .lit (.bool (decide (x ∈ S)))
namespace SetAt
variable {P : Program} {k e : TypeId} {w w' : World} {b n : Nat} {S : List Int}
theorem made (w : World) (P : Program) (k e : TypeId) : SetAt P k e (w.alloc (.map #[] 0)) w.heap.size 0 [] :=
  ⟨.map [], World.ownsMap_made _ _ _ _, ⟨[], rfl⟩, fun x => by simp [DataW.atKey]⟩
theorem keep {T : Nat → Prop} (h : SetAt P k e w b n S) (hk : Keep T w w') (hT : ¬ T b) : SetAt P k e w' b n S := by
  obtain ⟨D, h1, h2, h3⟩ := h
  have hlt := h1.lt
  obtain ⟨es, clock, hb, F, hs, hD⟩ := h1
  exact ⟨D, ⟨es, clock, (hk.block b hlt hT).trans hb, F, hs, hD⟩, h2, h3⟩
theorem lt (h : SetAt P k e w b n S) : b < w.heap.size := h.choose_spec.1.lt
theorem mono (h : SetAt P k e w b n S) {m : Nat} (hm : n ≤ m) : SetAt P k e w b m S := by
  obtain ⟨D, h1, h2, h3⟩ := h
  exact ⟨D, h1.mono hm, h2, h3⟩
theorem lookup (h : SetAt P k e w b n S) (K : Keyed P k) {t : TypeId} (ht : P.underlying t = some (.map k e)) (he : P.underlying e = some .bool) (hz : (zeroValue e).run P w = .ok (.bool false) w) (hk : P.underlying k = some (.int .i64)) (x : Int) (hx : (Lit.int .i64 x).wf = true) :
    (Instr.lookup t (.map (some b)) (.int .i64 x) false).run P w = .ok (.bool (decide (x ∈ S))) w := by
  obtain ⟨D, h1, h2, h3⟩ := h
  obtain ⟨v, ps, hrun, hv⟩ := h1.lookup K ht hz (plainElem_bool he false) (key := .int .i64 x) (kl := .int .i64 x) (keyOf_int_mk hk hx)
  obtain ⟨c, rfl, hc⟩ := plainElem_bool_inv he hv
  rw [h3 x] at hc
  injection hc with hc _
  injection hc with hc
  injection hc with hc
  rw [hrun, hc]
theorem update (h : SetAt P k e w b n S) (K : Keyed P k) {t : TypeId} (ht : P.underlying t = some (.map k e)) (he : P.underlying e = some .bool) (hk : P.underlying k = some (.int .i64)) (hn : n < maxLen) (x : Int) (hx : (Lit.int .i64 x).wf = true) :
    ∃ w', (Instr.mapUpdate t (.map (some b)) (.int .i64 x) (.bool true)).run P w = .ok () w' ∧ SetAt P k e w' b (n + 1) (x :: S) ∧ Keep (fun q => q = b) w w' := by
  obtain ⟨D, h1, h2, h3⟩ := h
  obtain ⟨w', hrun, h4, h5⟩ := h1.update K ht hn (key := .int .i64 x) (kl := .int .i64 x) (keyOf_int_mk hk hx) (plainElem_bool he true)
  refine ⟨w', hrun, ⟨_, h4, ?_, fun y => ?_⟩, ⟨h5.os, h5.tape, h5.output, h5.size, fun q hq hn => h5.block q hq (fun e => hn (by injection e))⟩⟩
  · obtain ⟨es, rfl⟩ := h2
    exact ⟨_, rfl⟩
  · by_cases hy : y = x
    · subst hy
      rw [atKey_put_same h2 (by trivial)]
      simp
    · rw [atKey_put_other (by intro e; injection e; contradiction), h3 y]
      simp [hy]
end SetAt

/-- 'm[x]', at the operation -/
theorem wpList_look_set {P : Program} {w : World} {ops : Array Oper} {rest : List Oper} {o : Oper} {a : Act} {Q : Exit → Act → World → Prop} (hg : o.guard = none) (m x : Operand) (t : TypeId) (hop : o.op = Op.lookup t m x false)
    {k e : TypeId} (K : Keyed P k) (ht : P.underlying t = some (.map k e)) (he : P.underlying e = some .bool) (hz : ∀ w, (zeroValue e).run P w = .ok (.bool false) w) (hk : P.underlying k = some (.int .i64)) {b n : Nat} {S : List Int} (hm : a.eval m = .map (some b)) (h : SetAt P k e w b n S)
    (y : Int) (hx : a.eval x = .int .i64 y) (hy : (Lit.int .i64 y).wf = true) (hK : wpList P ops Q rest (a.put o.dst (.bool (decide (y ∈ S)))) w) : wpList P ops Q (o :: rest) a w := by
  refine wpList_plain hg fun K' hK' => ?_
  have hrun := h.lookup K ht he (hz w) hk y hy
  unfold Oper.wp
  simp [execOp, hop, hm, hx, hrun, Result.andThen]
  exact hK' _ _ hK
/-- 'm[x] = true', at the operation -/
theorem wpList_put_set {P : Program} {w : World} {ops : Array Oper} {rest : List Oper} {o : Oper} {a : Act} {Q : Exit → Act → World → Prop} (hg : o.guard = none) (m x v : Operand) (t : TypeId) (hop : o.op = Op.mapUpdate t m x v)
    {k e : TypeId} (K : Keyed P k) (ht : P.underlying t = some (.map k e)) (he : P.underlying e = some .bool) (hk : P.underlying k = some (.int .i64)) {b n : Nat} {S : List Int} (hm : a.eval m = .map (some b)) (h : SetAt P k e w b n S) (hn : n < maxLen)
    (y : Int) (hx : a.eval x = .int .i64 y) (hy : (Lit.int .i64 y).wf = true) (hv : a.eval v = .bool true)
    (hK : ∀ w', SetAt P k e w' b (n + 1) (y :: S) → Keep (fun q => q = b) w w' → wpList P ops Q rest (a.put o.dst undef) w') : wpList P ops Q (o :: rest) a w := by
  refine wpList_plain hg fun K' hK' => ?_
  obtain ⟨w', hrun, h1, h2⟩ := h.update K ht he hk hn y hy
  unfold Oper.wp
  simp [execOp, hop, hm, hx, hv, hrun, Result.andThen]
  exact hK' _ _ (hK w' h1 h2)

end Go.Proofs.YtiebjnibmomcjaaDoor
