/- linesideref02.table: the row of the table, by one reckoning of the kernel. -/
import Derived.Test.YtiebjnibmomcjaaDoorVarsW
import Derived.Great.Walk
namespace Go.Proofs.YtiebjnibmomcjaaDoor
open Go.RowKit

/-- A straight piece of code that builds plain values and, at most once, one slice literal (at block N): its frame and what it lays. -/
def runAll (P : Program) (N : Nat) : List Oper → Act → Option (Act × Option (Array Value × TypeId))
  | [], a => some (a, none)
  | o :: r, a =>
    if o.guard = none then
      match o.op with
      | .build t parts =>
        match P.built t (parts.map fun (i, x) => (i, a.eval x)).toList with
        | some cs => runAll P N r (a.put o.dst (.agg cs))
        | none => none
      | .assign x => runAll P N r (a.put o.dst (a.eval x))
      | .buildSlice t len parts =>
        match P.underlying t with
        | some (.slice e) =>
          match P.builtSlice e len (parts.map fun (i, x) => (i, a.eval x)).toList with
          | some cells =>
            match runAll P N r (a.put o.dst (.slice (some ⟨N, 0, none⟩) len len)) with
            | some (a', none) => some (a', some (cells, e))
            | _ => none
          | none => none
        | _ => none
      | _ => none
    else none

def laidBy (w : World) : Option (Array Value × TypeId) → World
  | none => w
  | some (cells, e) => w.alloc (.cells cells e)

theorem wpList_runAll {P : Program} {ops : Array Oper} {Q : Exit → Act → World → Prop} (N : Nat) : ∀ (l : List Oper) (a a' : Act) (c : Option (Array Value × TypeId)) (w : World), (c ≠ none → w.heap.size = N) →
    runAll P N l a = some (a', c) → Q .normal a' (laidBy w c) → wpList P ops Q l a w := by
  intro l
  induction l with
  | nil =>
    intro a a' c w _ h hq
    simp only [runAll, Option.some.injEq, Prod.mk.injEq] at h
    obtain ⟨rfl, rfl⟩ := h
    exact hq
  | cons o r ih =>
    intro a a' c w hN h hq
    unfold runAll at h
    split at h
    case isFalse => cases h
    rename_i hg
    split at h
    · rename_i t parts ho
      split at h
      · rename_i cs hcs
        refine wpList_build hg t parts ho (by rw [hcs]; rfl) ?_
        rw [hcs]
        exact ih _ _ _ _ hN h hq
      · cases h
    · rename_i x ho
      refine Great.wpList_readTo hg _ rfl (a.eval x) ?_ (ih _ _ _ _ hN h hq)
      simp [execOp, ho]
    · rename_i t len parts ho
      split at h
      · rename_i e hu
        split at h
        · rename_i cells hc
          split at h
          · rename_i a2 hr
            simp only [Option.some.injEq, Prod.mk.injEq] at h
            obtain ⟨rfl, rfl⟩ := h
            refine Great.wpList_buildSliceTo hg t e len parts ho N (hN (by simp)) _ rfl hu cells hc ?_
            exact ih _ _ none _ (fun h => absurd rfl h) hr hq
          · cases h
        · cases h
      · cases h
    · cases h

def vcells : List Value := vrows.flatMap fun r => [.string ⟨r.name.toArray⟩, .int .i64 r.width, .int .i64 r.most, .int .i64 r.special]

theorem wp_region_table {P : Program} {id : Nat} {ops : Array Oper} {Q : Exit → Act → World → Prop} {a : Act} {w : World} (v : Value) (t : Tmp) (cells : Array Value) (e : TypeId) (n : Nat)
    (hk : (runAll P w.heap.size ops.toList a).map (fun r => (r.1.tmps.getD t undef, r.1.tmps.size, r.1.defers.isEmpty, r.2)) = some (v, n, true, some (cells, e)))
    (h : ∀ a' : Act, a'.tmps.getD t undef = v → a'.tmps.size = n → a'.defers = [] → Q .normal a' (w.alloc (.cells cells e))) : (Code.region id ops false).wp P Q a w := by
  obtain ⟨r, hr, he⟩ := Option.map_eq_some_iff.1 hk
  obtain ⟨a', c⟩ := r
  simp only [Prod.mk.injEq] at he
  obtain ⟨h1, h2, h3, rfl⟩ := he
  refine wp_region_list (wpList_runAll w.heap.size ops.toList a a' _ w (fun _ => rfl) hr ?_)
  exact h a' h1 h2 (by simpa using h3)

set_option maxHeartbeats 4000000 in
set_option maxRecDepth 100000 in
theorem table_any (w : World) :
    Calls Tryd.prog 61 #[] w fun e w' => e = .returned (.slice (some ⟨w.heap.size, 0, none⟩) 96 96) ∧ w' = w.alloc (.cells vcells.toArray 97) := by
  go_enter Tryd.func61, Tryd.ntmps61
  refine wp_seq (wp_region_lit (wpList_runAll 0 _ _ _ none _ (fun h => absurd rfl h) rfl ?_))
  simp only [Exit.then]
  refine wp_seq (wp_region_table (.slice (some ⟨w.heap.size, 0, none⟩) 96 96) 0 vcells.toArray 97 98 (by kernel_rfl) ?_)
  intro a' h0 hn hd
  simp only [Exit.then]
  refine wp_ret ?_
  exact bodyPost_ret (results_tmp rfl _ _ _) hd ⟨by rw [h0], rfl⟩
end Go.Proofs.YtiebjnibmomcjaaDoor
