/- The frame of a law's proof: what comes in opened to data; what the call leaves, closed to the row's post. -/
import Derived.Test.YtiebjnibmomcjaaDoorRep
import Derived.ProofKit
import Derived.Test.YtiebjnibmomcjaaDoorBdVarsD
import Derived.Lib.LaidTab
namespace Go.Proofs.YtiebjnibmomcjaaDoor
open Go.RowKit Go.ChangeShapes Go.WideShapes Go.ChangeAt

theorem ownk : ownKnob Tryd.prog.godebug = none := by kernel_rfl
theorem laidOut : laidOutB Tryd.prog = true := by kernel_rfl

section
variable {H : Type} {enc : TypeId × Value → H} {P : Program} {W : World} {b : Nat} {q : Reach} {spare : Nat → Bool} {held : Bool} {t : TypeId} {v : Value} {d : DataW H} {p : List MemPlace} {α : Type}
theorem arg_slice {r : Rep α} (ho : Rep.Opens P t r.list) {e : TypeId} (ht : P.underlying t = some (.slice e)) (hv : Value.okWide P W q b t v) (h : DataW.Trod enc P W 0 spare held t v d p) :
    ∃ A n c l, v = .slice A n c ∧ r.Sl W W.heap.size A n c l := by
  obtain ⟨A, n, c, rfl⟩ := okWide_slice ht hv
  obtain ⟨fuel, hf⟩ := h
  obtain ⟨l, A', n', c', hcs, hsl⟩ := ho enc W _ _ _ _ _ hf
  have : Value.slice A n c = .slice A' n' c' := by simpa [Value.cells] using hcs
  injection this with h1 h2 h3
  subst h1; subst h2; subst h3
  exact ⟨A, n, c, l, rfl, hsl⟩
theorem arg_int (ht : P.underlying t = some (.int .i64)) (hv : Value.okWide P W q b t v) (h : DataW.Trod enc P W 0 spare held t v d p) :
    ∃ n, v = .int .i64 n ∧ -9223372036854775808 ≤ n ∧ n ≤ 9223372036854775807 := by
  obtain ⟨n, rfl, _, _, hwf⟩ := open_int ht hv h
  have : -9223372036854775808 ≤ n ∧ n ≤ 9223372036854775807 := by simpa [Lit.wf, IntKind.min, IntKind.max, IntKind.signed, IntKind.bits] using hwf
  exact ⟨n, rfl, this⟩
theorem arg_bool (ht : P.underlying t = some .bool) (hv : Value.okWide P W q b t v) (h : DataW.Trod enc P W 0 spare held t v d p) : ∃ x, v = .bool x := by
  obtain ⟨n, rfl, _⟩ := open_bool ht hv h
  exact ⟨n, rfl⟩
theorem arg_struct {r : Rep α} (ho : Rep.Opens P t r) {fs : Array Field} (ht : P.underlying t = some (.struct fs)) (hv : Value.okWide P W q b t v) (h : DataW.Trod enc P W 0 spare held t v d p) :
    ∃ cs a, v = .agg cs ∧ r.cells W W.heap.size a cs.toList := by
  obtain ⟨cs, rfl, _⟩ := okWide_struct ht hv
  obtain ⟨fuel, hf⟩ := h
  obtain ⟨a, ha⟩ := ho enc W _ _ _ _ _ hf
  exact ⟨cs, a, rfl, ha⟩

theorem trodAll_below (hl : laidOutB P = true) {W' : World} (hb : Below W.heap.size W W') : ∀ {ts : List TypeId} {vs : List Value} {ds : List (DataW H)} {p : List MemPlace},
    (ts.all fun t => P.readableRec t && decide (t < P.types.size)) = true → DataW.TrodAll enc P W 0 (fun _ => true) true ts vs ds p → (∀ x ∈ p, x.block < W.heap.size) →
    DataW.TrodAll enc P W' 0 (fun b => decide (b < W.heap.size)) true ts vs ds p := by
  intro ts
  induction ts with
  | nil =>
    intro vs ds p _ h _
    obtain ⟨rfl, rfl, rfl⟩ := trodAll_nil h
    rfl
  | cons t ts ih =>
    intro vs ds p ht h hp
    obtain ⟨v, vs', d, ds', p1, p2, rfl, rfl, rfl, h1, h2⟩ := trodAll_cons h
    simp only [List.all_cons, Bool.and_eq_true, decide_eq_true_eq] at ht
    exact ⟨p1, p2, Below.trod hl ht.1.1 ht.1.2 h1 hb (fun x hx => hp x (by simp [hx])), ih ht.2 h2 (fun x hx => hp x (by simp [hx])), rfl⟩

/-- a law's post: true, and every argument reads as it did -/
theorem law_post {f : Func} {s : ChangeSpec} (hl : laidOutB P = true) (hts : (f.params.toList.all fun t => P.readableRec t && decide (t < P.types.size)) = true) {bt : TypeId} (hrt : f.resultTypes = #[bt]) (hbt : P.underlying bt = some .bool)
    (hvars : s.vars = []) {args : Array Value} {ds gs : List (DataW H)} {before : List MemPlace} (hW : DataW.Whole enc P f.params.toList s.vars false W args.toList ds gs before)
    (hs : s.fn H ds = { results := [.lit (.bool true)], args := ds }) {W' : World} (hb : Below W.heap.size W W') : s.post enc P f false true false false W args (.bool true) W' := by
  have hW0 := hW
  obtain ⟨p, q, hA, hV, hp, hfz, hnd⟩ := hW
  rw [hvars] at hV
  obtain ⟨rfl, rfl⟩ := trodVars_none hV
  rw [List.append_nil] at hp
  subst hp
  refine ⟨ds, [], before, [], before, [], hW0, ?_, ?_, ?_, hb.frame _, fun h => by cases h⟩
  · rw [List.append_nil, hs, hrt]
    exact trodAll_mk1 (shut_bool hbt true)
  · rw [List.append_nil, hs]
    exact trodAll_below hl hb hts hA (fun x hx => hW0.lt x hx)
  · rw [List.append_nil, hs, hvars]
    rfl
end

end Go.Proofs.YtiebjnibmomcjaaDoor

namespace Go.Proofs.YtiebjnibmomcjaaDoor
open Go.RowKit Go.ChangeShapes Go.WideShapes Go.ChangeAt

theorem gTab : Tryd.prog.globalNamed "lineside/vars.widths" = some 0 := by kernel_rfl
theorem gTabType : (Tryd.prog.globals[0]?).map (·.type) = some 83 := by kernel_rfl
theorem cellsTab : Tryd.prog.cellsOf 83 = 96 := by kernel_rfl
theorem cellsInt : Tryd.prog.cellsOf 3 = 1 := by kernel_rfl
theorem laid_gives {W : World} (h : laidMetH Tryd.prog [("lineside/vars.widths", Rows.laid_lineside_vars_widths)] W) : Widths W := by
  have hT : Lib.TabIs Tryd.prog W "lineside/vars.widths" .i64 wtab := Lib.tabIs_of_head (rest := []) gTab gTabType Tryd.underlying83 Tryd.underlying3 cellsInt cellsTab h
  intro i hi
  have := hT.cell gTab i (by show i < 96; exact hi)
  rw [this]
noncomputable def laidWorld (os : Os) : World :=
  { World.holding Tryd.prog os ⟨#[], #[], []⟩ with heap := (World.holding Tryd.prog os ⟨#[], #[], []⟩).heap.modify 0 fun
      | .cells _ t frozen => .cells (wtab.map (Value.int .i64)).toArray t frozen
      | o => o }
end Go.Proofs.YtiebjnibmomcjaaDoor
