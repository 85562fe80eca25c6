/- Chapter 13: the steps that After keeps in a map: which steps block b has. -/
import Derived.Test.YtlcbajdckgcopaaTopC
import Derived.Test.YtlcbajdckgcopaaLaw
import Derived.Maps.RangeWalk
import Derived.DeepKeys4
namespace Go.Proofs.Ytlcbajdckgcopaa
open Go.RowKit Go.Maps Go.WideShapes Go.WideMaps

def stpV (s : Stp) : Value := .agg #[.int .i64 s.1, .bool s.2]
def kS (s : Stp) : Lit := .string (keyBytes [.int .i64 s.1, .bool s.2])
set_option maxRecDepth 100000 in
theorem wideStp : (match Try.prog.underlying 44 with | some (.array _ _) | some (.struct _) => true | _ => false) = true := by kernel_rfl
set_option maxRecDepth 100000 in
theorem rowStp : (44 : TypeId) < Try.prog.types.size := of_decide_eq_true (by kernel_rfl)
set_option maxRecDepth 100000 in
theorem lawStp : Keyed Try.prog 44 := Keyed.of_law (deep_law_laid laidOut (m := 3) (by omega) rowStp (by kernel_rfl) wideStp)
set_option maxRecDepth 100000 in
theorem keyTypeStp : Try.prog.keyType 44 = true := by kernel_rfl
set_option maxRecDepth 100000 in
theorem cellsStp : Try.prog.cellsOf 44 = 2 := by kernel_rfl
set_option maxRecDepth 100000 in
theorem cellsInt : Try.prog.cellsOf 3 = 1 := by kernel_rfl
set_option maxRecDepth 100000 in
theorem cellsBool : Try.prog.cellsOf 4 = 1 := by kernel_rfl
set_option maxRecDepth 100000 in
theorem pred_of_lt {n k : Nat} (h : k < n) : ∃ m, n = m + 1 := ⟨n - 1, by omega⟩
set_option maxRecDepth 100000 in
theorem typesSize : ∃ m, Try.prog.types.size = m + 1 := pred_of_lt rowStp
set_option maxRecDepth 100000 in
theorem keyLits_stp (m : Nat) (s : Stp) (h : -9223372036854775808 ≤ s.1 ∧ s.1 ≤ 9223372036854775807) : Try.prog.keyLits (m + 2) 44 [.int .i64 s.1, .bool s.2] = some [.int .i64 s.1, .bool s.2] := by
  have hw : (Lit.int .i64 s.1).wf = true := by simp [Lit.wf, IntKind.min, IntKind.max, IntKind.bits, IntKind.signed]; omega
  have h1 : Try.prog.keyLits (m + 1) 3 [.int .i64 s.1] = some [.int .i64 s.1] := by
    unfold Program.keyLits; rw [Try.underlying3]; simp [hw]
  have h2 : Try.prog.keyLits (m + 1) 4 [.bool s.2] = some [.bool s.2] := by
    unfold Program.keyLits; rw [Try.underlying4]
  unfold Program.keyLits
  rw [Try.underlying44]
  simp only [cellsStp]
  simp [cellsInt, cellsBool, h1, h2]
set_option maxRecDepth 100000 in
theorem keyOf_stp (s : Stp) (h : -9223372036854775808 ≤ s.1 ∧ s.1 ≤ 9223372036854775807) : keyOf Try.prog 44 (stpV s) = some (kS s) := by
  obtain ⟨m, hm⟩ := typesSize
  have hf : (stpV s).formed Try.prog 44 = true := by simp [stpV, Value.formed, Try.underlying44, cellsStp]
  unfold keyOf
  rw [Try.underlying44]
  simp only [keyTypeStp, hf, Bool.and_self, if_true, hm]
  have := keyLits_stp m s h
  simp only [stpV, Value.cells]
  rw [this]
  rfl
set_option maxRecDepth 100000 in
theorem keyOf_inv {v : Value} {l : Lit} (h : keyOf Try.prog 44 v = some l) : ∃ s : Stp, v = stpV s ∧ -9223372036854775808 ≤ s.1 ∧ s.1 ≤ 9223372036854775807 := by
  obtain ⟨m, hm⟩ := typesSize
  obtain ⟨xs, L, rfl, h1, -⟩ := keyOf_top wideStp h
  rw [hm] at h1
  unfold Program.keyLits at h1
  rw [Try.underlying44] at h1
  simp only [cellsStp] at h1
  split at h1
  · rename_i hc
    obtain ⟨l⟩ := xs
    match l, hc.1 with
    | [x, y], _ =>
      simp [cellsInt, cellsBool] at h1
      cases hp : Try.prog.keyLits (m + 1) 3 [x] with
      | none => rw [hp] at h1; simp at h1
      | some p =>
        cases hq : Try.prog.keyLits (m + 1) 4 [y] with
        | none => rw [hp, hq] at h1; simp at h1
        | some q =>
          unfold Program.keyLits at hp hq
          rw [Try.underlying3] at hp
          rw [Try.underlying4] at hq
          cases x <;> simp at hp
          cases y <;> simp at hq
          obtain ⟨⟨rfl, hw⟩, _⟩ := hp
          simp [Lit.wf, IntKind.min, IntKind.max, IntKind.bits, IntKind.signed] at hw
          exact ⟨(_, _), rfl, by simp only; omega, by simp only; omega⟩
  · cases h1
set_option maxRecDepth 100000 in
theorem kS_inj {s u : Stp} (hs : -9223372036854775808 ≤ s.1 ∧ s.1 ≤ 9223372036854775807) (hu : -9223372036854775808 ≤ u.1 ∧ u.1 ≤ 9223372036854775807) (h : kS s = kS u) : s = u := by
  have h1 := keyOf_stp s hs
  have h2 := keyOf_stp u hu
  rw [h] at h1
  have := lawStp.inj h1 h2
  unfold stpV at this
  injection this with this
  simp at this
  exact Prod.ext this.1 this.2

noncomputable abbrev elB : Value → Option (DataW Unit × List MemPlace) := plainElem Try.prog 4
set_option maxRecDepth 100000 in
theorem elB_inv (v : Value) (y : DataW Unit × List MemPlace) (h : elB v = some y) : ∃ c : Bool, v = .bool c := by
  unfold elB plainElem at h
  rw [Try.underlying4] at h
  cases v <;> simp at h
  exact ⟨_, rfl⟩
def in64 (s : Stp) : Prop := -9223372036854775808 ≤ s.1 ∧ s.1 ≤ 9223372036854775807
/-- block b is a map of at most n entries, whose keys are the steps ks -/
def SetAt (w : World) (b n : Nat) (ks : Stp → Prop) : Prop := ∃ D : DataW Unit, w.ownsMap Try.prog 44 elB b n D ∧ (∀ s, in64 s → (has D (kS s) = true ↔ ks s)) ∧ IsMap D
set_option maxRecDepth 100000 in
theorem SetAt.keep {S : Nat → Prop} {w w' : World} {b n : Nat} {ks : Stp → Prop} (h : SetAt w b n ks) (hk : Keep S w w') (hS : ¬ S b) : SetAt w' b n ks := by
  obtain ⟨D, ho, h1, h2⟩ := h
  have hlt := ho.lt
  obtain ⟨es, clock, hb, F, hs, hD⟩ := ho
  exact ⟨D, ⟨es, clock, (hk.block b hlt hS).trans hb, F, hs, hD⟩, h1, h2⟩
set_option maxRecDepth 100000 in
theorem SetAt.lt {w : World} {b n : Nat} {ks : Stp → Prop} (h : SetAt w b n ks) : b < w.heap.size := by obtain ⟨D, ho, _⟩ := h; exact ho.lt
set_option maxRecDepth 100000 in
theorem SetAt.congr {w : World} {b n m : Nat} {ks ks' : Stp → Prop} (h : SetAt w b n ks) (hn : n ≤ m) (hk : ∀ u, in64 u → (ks u ↔ ks' u)) : SetAt w b m ks' := by
  obtain ⟨D, ho, h1, h2⟩ := h
  exact ⟨D, ho.mono hn, fun u hu => (h1 u hu).trans (hk u hu), h2⟩
set_option maxRecDepth 100000 in
theorem SetAt.made (w : World) : SetAt (w.alloc (.map #[] 0)) w.heap.size 0 (fun _ => False) :=
  ⟨.map [], World.ownsMap_made _ _ _ _, fun s _ => by simp [has], isMap_empty⟩
set_option maxRecDepth 100000 in
theorem keep_grown {w w' : World} {b : Nat} (h : w.grownBy w' (some b)) : Keep (fun k => k = b) w w' := ⟨h.os, h.tape, h.output, h.size, fun k hk hn => h.block k hk (fun e => hn (by injection e))⟩
set_option maxRecDepth 100000 in
theorem keep_grown0 {w w' : World} (h : w.grownBy w' none) : Keep Never w w' := ⟨h.os, h.tape, h.output, h.size, fun k hk _ => h.block k hk (fun e => by cases e)⟩

section
variable (w : World) {ops : Array Oper} {rest : List Oper} {o : Oper} {a : Act} {Q : Exit → Act → World → Prop}
set_option maxRecDepth 100000 in
/-- 'm[s] = true' -/
theorem wpList_put (hg : o.guard = none) (m x v : Operand) (hop : o.op = Op.mapUpdate 99 m x v) (b n : Nat) (ks : Stp → Prop) (hm : a.eval m = .map (some b)) (hs : SetAt w b n ks) (hn : n < maxLen)
    (s : Stp) (hx : a.eval x = stpV s) (h64 : in64 s) (hv : a.eval v = .bool true)
    (hK : ∀ w', SetAt w' b (n + 1) (fun u => ks u ∨ u = s) → Keep (fun k => k = b) w w' → wpList Try.prog ops Q rest (a.put o.dst undef) w') : wpList Try.prog ops Q (o :: rest) a w := by
  obtain ⟨D, ho, h1, h2⟩ := hs
  refine wpList_mapUpdate_own w hg m x v _ hop 44 4 lawStp Try.underlying99 elB b n D hm ho hn (stpV s) (.bool true) (kS s) hx hv (keyOf_stp s h64) _ [] (plainElem_bool Try.underlying4 true) ?_
  intro w' ho' hg'
  refine hK w' ⟨_, ho', fun u hu => ?_, h2.put _ _⟩ (keep_grown hg')
  by_cases e : u = s
  · subst e
    simp [has_put_same h2 (lawStp.key (keyOf_stp u h64))]
  · have hne : kS u ≠ kS s := fun h => e (kS_inj hu h64 h)
    rw [has_put_other hne, h1 u hu]
    simp [e]
/-- 'range' over the map under way in block r -/
def RngAt (w : World) (b r n : Nat) (ks left : Stp → Prop) (cnt : Nat) : Prop := ∃ (D : DataW Unit) (lf : Lit → Bool), w.ranges Try.prog 44 elB b r n D lf cnt ∧ (∀ s, in64 s → (has D (kS s) = true ↔ ks s)) ∧ (∀ s, in64 s → (lf (kS s) = true ↔ left s))
set_option maxRecDepth 100000 in
theorem RngAt.left_eq {w : World} {b r n : Nat} {ks left : Stp → Prop} {cnt : Nat} (h : RngAt w b r n ks left cnt) : w.rangeLeft b r = cnt := by obtain ⟨D, lf, hr, _⟩ := h; exact hr.left_eq
set_option maxRecDepth 100000 in
theorem RngAt.keep {S : Nat → Prop} {w w' : World} {b r n : Nat} {ks left : Stp → Prop} {cnt : Nat} (h : RngAt w b r n ks left cnt) (hk : Keep S w w') (hb : ¬ S b) (hr : ¬ S r) : RngAt w' b r n ks left cnt := by
  obtain ⟨D, lf, hrg, h1, h2⟩ := h
  have hl1 := hrg.owns.lt
  have hl2 := hrg.lt
  obtain ⟨es, clock, since, seen, c0, hb', F, hs, hD, hr', rest⟩ := hrg
  exact ⟨D, lf, ⟨es, clock, since, seen, c0, (hk.block b hl1 hb).trans hb', F, hs, hD, (hk.block r hl2 hr).trans hr', rest⟩, h1, h2⟩
set_option maxRecDepth 100000 in
theorem wpList_rng (hg : o.guard = none) (m : Operand) (hop : o.op = Op.range 99 m) (b n : Nat) (ks : Stp → Prop) (hm : a.eval m = .map (some b)) (hs : SetAt w b n ks)
    (hK : ∀ w' cnt, RngAt w' b w.heap.size n ks ks cnt → cnt ≤ n → Keep Never w w' → w'.heap.size = w.heap.size + 1 → wpList Try.prog ops Q rest (a.put o.dst (.pointer (some ⟨w.heap.size, 0, none⟩))) w') : wpList Try.prog ops Q (o :: rest) a w := by
  obtain ⟨D, ho, h1, h2⟩ := hs
  have hsz : Maps.size D ≤ n := by
    obtain ⟨es, clock, hb, F, hs, rfl⟩ := ho
    simp only [Maps.size, length_sorted, List.length_map, Array.length_toList]
    exact hs
  refine wpList_range_own w hg m _ hop 44 4 lawStp Try.underlying99 elB b n D hm ho ?_
  intro w' hr hg' hsz'
  exact hK w' _ ⟨D, _, hr, h1, h1⟩ hsz (keep_grown0 hg') hsz'
set_option maxRecDepth 100000 in
theorem wpList_nxt (hg : o.guard = none) (it : Operand) (hop : o.op = Op.next it false) (b r n : Nat) (ks left : Stp → Prop) (cnt : Nat) (hit : a.eval it = .pointer (some ⟨r, 0, none⟩)) (h : RngAt w b r n ks left cnt)
    (hDone : cnt = 0 → (∀ s, in64 s → ¬ left s) → wpList Try.prog ops Q rest (a.put o.dst (.tuple #[.bool false])) w)
    (hMore : ∀ (s : Stp) (c : Bool) (w' : World) (cnt' : Nat), in64 s → left s → RngAt w' b r n ks (fun u => left u ∧ u ≠ s) cnt' → cnt' < cnt → Keep (fun k => k = r) w w' → Hid (w'.heap.size = w.heap.size) →
      (Instr.entry (.pointer (some ⟨r, 0, none⟩))).run Try.prog w' = .ok (.tuple #[.agg #[.int .i64 s.1, .bool s.2], .bool c]) w' → wpList Try.prog ops Q rest (a.put o.dst (.tuple #[.bool true, .agg #[.int .i64 s.1, .bool s.2], .bool c])) w') :
    wpList Try.prog ops Q (o :: rest) a w := by
  obtain ⟨D, lf, hrg, h1, h2⟩ := h
  refine wpList_next_ranges w hg it hop 44 lawStp elB (fun s : Stp => stpV s) (fun c : Bool => .bool c) (fun key kl hk => (keyOf_inv hk).imp fun s h => h.1) (fun v y hv => elB_inv v y hv) b r n D lf cnt hit hrg ?_ ?_
  · intro h0 hl
    exact hDone h0 (fun s hs hx => by rw [← h2 s hs, hl] at hx; cases hx)
  · intro s c kl y w' cnt' hk hl hv hat hr' hlt hgr hsz hen
    obtain ⟨s', he, h64⟩ := keyOf_inv hk
    have hss : s = s' := by
      unfold stpV at he
      injection he with he
      simp at he
      exact Prod.ext he.1 he.2
    subst hss
    have hkl : kl = kS s := by
      have := keyOf_stp s h64
      rw [hk] at this
      injection this
    subst hkl
    refine hMore s c w' cnt' h64 ((h2 s h64).1 hl) ⟨D, _, hr', h1, fun u hu => ?_⟩ hlt (keep_grown hgr) (Lib.hid hsz) hen
    rw [Bool.and_eq_true, h2 u hu]
    by_cases e : u = s
    · subst e
      simp [WideAt.sameKey_self (lawStp.key (keyOf_stp u h64))]
    · have hne : kS u ≠ kS s := fun h => e (kS_inj hu h64 h)
      simp [sameKey_ne hne, e]
end

end Go.Proofs.Ytlcbajdckgcopaa
