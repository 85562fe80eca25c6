/- Chapter 18 (grant): turned. -/
import Derived.Test.YtlcbajdckgcopaaGrF
namespace Go.Proofs.Ytlcbajdckgcopaa
open Go.RowKit

attribute [local go_sem] Oper.semAt_some

theorem left_any (A : Option Addr) (n c : Nat) (fv : Value) (w : World) (hf : ∃ g lb, fv = .func (.func g) #[] lb) : Calls Try.prog 126 #[.slice A n c, fv] w fun e w' => e = .returned (.func (.func 151) #[] #[.pointer (some ⟨w.heap.size, 0, none⟩), .pointer (some ⟨w.heap.size + 1, 0, none⟩)]) ∧ w' = (w.alloc (.cells #[.slice A n c] 50)).alloc (.cells #[fv] 115) := by
  obtain ⟨g, lb, rfl⟩ := hf
  go_enter Try.func126, Try.ntmps126
  go_wp2
  go_ret
  exact ⟨rfl, rfl⟩

theorem TyE.set {W : World} {q q' i : Nat} {v : Value} (h : TyE W q') : TyE (W.setCell ⟨q, i, none⟩ v) q' := by
  obtain ⟨cs, h⟩ := h
  by_cases e : q' = q
  · subst e; exact ⟨_, h.set_ i v⟩
  · exact ⟨cs, h.far (p := ⟨q, i, none⟩) e v⟩
/-- what stands between two rounds of turned: l and the deferred calls are the loop's own blocks -/
structure KE (w : World) (ob N l : Nat) (lp : Loop) (T : Nat → Prop) (pre : List Ent) (W : World) : Prop where
  keep : Keep (fun q => q = ob ∨ w.heap.size ≤ q) w W
  mine : ∀ q, T q → w.heap.size ≤ q ∧ q ≠ l ∧ q ≠ w.heap.size ∧ q < W.heap.size ∧ TyE W q
  row : ∃ (Ao : Option Addr) (no co : Nat) (css : List (List Value)), no = pre.length ∧ Blk W ob 50 #[.slice Ao no co] ∧ Own W w.heap.size 77 4 Ao no co css.flatten ∧ All2 (EG N W) pre css ∧ ∀ q, InRow Ao q → ¬ T q
  loop : W.heap[l]? = some (.loop lp)
  dfr : W.heap[w.heap.size]? = some (.deferred (some []))
  low : N ≤ ob ∧ ob < w.heap.size ∧ w.heap.size < l
namespace KE
variable {w W W' : World} {ob N l : Nat} {lp : Loop} {T T' : Nat → Prop} {pre : List Ent}
theorem lt (h : KE w ob N l lp T pre W) : l < W.heap.size ∧ w.heap.size < W.heap.size := ⟨(Array.getElem?_eq_some_iff.1 h.loop).1, (Array.getElem?_eq_some_iff.1 h.dfr).1⟩
theorem go (h : KE w ob N l lp T pre W) (hk : Keep Never W W') : KE w ob N l lp T pre W' := by
  have hlt := h.lt
  refine ⟨h.keep.trans (hk.mono (fun _ _ h => h.elim)), fun q hq => ?_, ?_, (hk.block _ hlt.1 (fun h => h)).trans h.loop, (hk.block _ hlt.2 (fun h => h)).trans h.dfr, h.low⟩
  · obtain ⟨h1, h2, h3, h4, cs, h5⟩ := h.mine q hq
    exact ⟨h1, h2, h3, Nat.lt_of_lt_of_le h4 hk.size, cs, h5.keep hk (fun h => h)⟩
  · obtain ⟨Ao, no, co, css, h1, h2, h3, h4, h5⟩ := h.row
    exact ⟨Ao, no, co, css, h1, h2.keep hk (fun h => h), h3.keep hk (fun _ _ h => h), egs_keep h4 hk (Far.none _ _), h5⟩
theorem box (h : KE w ob N l lp T pre W) (cs : Array Value) (hT : ∀ q, T' q → T q ∨ q = W.heap.size) : KE w ob N l lp T' pre (W.alloc (.cells cs 77)) := by
  have hlt := h.lt
  have hk : Keep Never W (W.alloc (.cells cs 77)) := (Keep.refl _ _).alloc _
  refine ⟨h.keep.alloc _, fun q hq => ?_, ?_, (Below.heap_alloc W _ _ hlt.1).trans h.loop, (Below.heap_alloc W _ _ hlt.2).trans h.dfr, h.low⟩
  · rcases hT q hq with h' | rfl
    · obtain ⟨h1, h2, h3, h4, cs', h5⟩ := h.mine q h'
      exact ⟨h1, h2, h3, by rw [World.size_alloc]; omega, cs', h5.keep hk (fun h => h)⟩
    · rw [World.size_alloc]
      exact ⟨by omega, by omega, by omega, by omega, cs, Blk.new W _ cs⟩
  · obtain ⟨Ao, no, co, css, h1, h2, h3, h4, h5⟩ := h.row
    refine ⟨Ao, no, co, css, h1, h2.alloc _, h3.alloc _, egs_keep h4 hk (Far.none _ _), fun q hq hq' => ?_⟩
    rcases hT q hq' with h' | rfl
    · exact h5 q hq h'
    · have := (h3.row hq).2; omega
theorem weak (h : KE w ob N l lp T pre W) (hT : ∀ q, T' q → T q) : KE w ob N l lp T' pre W := by
  refine ⟨h.keep, fun q hq => h.mine q (hT q hq), ?_, h.loop, h.dfr, h.low⟩
  obtain ⟨Ao, no, co, css, h1, h2, h3, h4, h5⟩ := h.row
  exact ⟨Ao, no, co, css, h1, h2, h3, h4, fun q hq hq' => h5 q hq (hT q hq')⟩
theorem put (h : KE w ob N l lp T pre W) {q : Nat} (hq : T q) (i : Nat) (v : Value) : KE w ob N l lp T pre (W.setCell ⟨q, i, none⟩ v) := by
  have hm := h.mine q hq
  have hl := h.low
  have hk : Keep (fun x => x = q) W (W.setCell ⟨q, i, none⟩ v) := (Keep.refl (fun x => x = q) W).st (.inl rfl)
  obtain ⟨cs, hcs⟩ := hm.2.2.2.2
  have hF : Far N W (fun x => x = q) := Far.blk hcs (by decide) (by omega)
  refine ⟨h.keep.set_ (p := ⟨q, i, none⟩) (.inl (.inr hm.1)) v, fun q' h' => ?_, ?_, (KeepsOthers.setCell W _ v).same _ _ h.loop rfl, (KeepsOthers.setCell W _ v).same _ _ h.dfr rfl, h.low⟩
  · obtain ⟨h1, h2, h3, h4, h5⟩ := h.mine q' h'
    exact ⟨h1, h2, h3, by simpa [World.setCell] using h4, h5.set⟩
  · obtain ⟨Ao, no, co, css, h1, h2, h3, h4, h5⟩ := h.row
    exact ⟨Ao, no, co, css, h1, h2.far (p := ⟨q, i, none⟩) (by simp only; omega) v, h3.far (p := ⟨q, i, none⟩) (fun k' hk' e => h5 _ hk' (by simp only at e; rw [e]; exact hq)) v, egs_keep h4 hk hF, h5⟩
/-- the record is turned -/
theorem turn (h : KE w ob N l lp T pre W) (lp' : Loop) : KE w ob N l lp' T pre (W.putObj l (.loop lp')) := by
  have hlt := h.lt
  have hlo := h.low
  have hk := putObj_keep W l (.loop lp') hlt.1
  have hF : Far N W (fun x => x = l) := fun q hq => by
    subst hq
    refine ⟨by omega, fun cs hb => ?_⟩
    unfold Blk at hb; rw [h.loop] at hb; cases hb
  refine ⟨h.keep.trans (hk.mono (fun q _ e => .inr (by omega))), fun q' h' => ?_, ?_, World.putObj_heap_same hlt.1, (World.putObj_heap_other (by omega)).trans h.dfr, h.low⟩
  · obtain ⟨h1, h2, h3, h4, cs, h5⟩ := h.mine q' h'
    exact ⟨h1, h2, h3, Nat.lt_of_lt_of_le h4 hk.size, cs, h5.keep hk h2⟩
  · obtain ⟨Ao, no, co, css, h1, h2, h3, h4, h5⟩ := h.row
    exact ⟨Ao, no, co, css, h1, h2.keep hk (by omega), own_other h3 hk (fun q o e ho => by subst e; rw [h.loop] at ho; injection ho with ho; subst ho; rfl), egs_keep h4 hk hF, h5⟩
end KE

/-- the range over what is left: what a round of turned owes, and what comes behind -/
theorem wpIn_range_left {gg : Operand} {ps : Array Tmp} {assign body : Code} {Q : Exit → Act → World → Prop} {a : Act} {w0 : World} (pa pb na ca ob N : Nat) (Aa : Option Addr) (es : List Ent) (g : Nat) (lb : Array Value) (f : Ent → List Sp)
    (hg : a.eval gg = .func (.func 151) #[] #[.pointer (some ⟨pa, 0, none⟩), .pointer (some ⟨pb, 0, none⟩)]) (hps : ps.size = 1)
    (hpa : w0.cell? ⟨pa, 0, none⟩ = some (.slice Aa na ca)) (hpb : w0.cell? ⟨pb, 0, none⟩ = some (.func (.func g) #[] lb)) (hne : pa ≠ ob ∧ pb ≠ ob) (ha : EsG N w0 Aa na ca es) (hNo : N ≤ ob) (hna : na ≤ 1000000)
    (hob : Blk w0 ob 50 #[.slice none 0 0]) (eg : ∀ args w, (callFunc g args).run Try.prog w = .ok (.enter g args) w) (hE : ExtOk g lb f N (fun q => q = ob ∨ w0.heap.size ≤ q) w0 es) (a₁ : Nat → Value → Act)
    (hassign : ∀ (l : Nat) (x : Ent) (A : Option Addr) (n c : Nat) (W : World) (K : Act → World → Prop), K (a₁ W.heap.size (.agg #[.int .i64 x.1, .int .i64 x.2.1, .slice A n c, .bool x.2.2.2])) (W.alloc (.cells #[.int .i64 x.1, .int .i64 x.2.1, .slice A n c, .bool x.2.2.2] 77)) →
      assign.wpIn (Fence.wide.inRound l) 1 Try.prog (Exit.then K (fun _ _ _ => False)) { tmps := (ps.zip #[.agg #[.int .i64 x.1, .int .i64 x.2.1, .slice A n c, .bool x.2.2.2]]).foldl (fun t (p, v) => t.setIfInBounds p v) a.tmps, defers := [] } W)
    (hbody : ∀ (l : Nat) (lp : Loop) (T : Nat → Prop) (pre : List Ent) (x : Ent) (A : Option Addr) (n c : Nat) (q : Nat) (W : World), KE w0 ob N l lp T pre W → Blk W q 77 #[.int .i64 x.1, .int .i64 x.2.1, .slice A n c, .bool x.2.2.2] → SpG N W A n c x.2.2.1 → pre.length < na →
      body.wpIn (Fence.wide.inRound l) 1 Try.prog (fun e _ W' => e = .normal ∧ KE w0 ob N l lp T (pre ++ [x]) W' ∧ Keep (fun q => (q = ob ∨ w0.heap.size ≤ q) ∧ ¬ T q) W W') (a₁ q (.agg #[.int .i64 x.1, .int .i64 x.2.1, .slice A n c, .bool x.2.2.2])) W)
    (hdone : ∀ (l : Nat) (lp : Loop) (W : World), KE w0 ob N l lp NoB (leftM f es) W → Q .normal { a with defers := { target := .collected w0.heap.size, args := #[] } :: a.defers } W) :
    (Code.rangeFunc gg ps assign body).wpIn Fence.wide 3 Try.prog Q a w0 := by
  refine wpIn_rangeFunc ?_
  intro fn hfn
  rw [show Fence.wide.round = none from rfl]
  obtain ⟨rec, hrec⟩ : ∃ rec : LoopState → Option Code → Loop, rec = fun st pe => { state := st, pending := pe, fn, tmps := a.tmps, params := ps, assign, body, defers := w0.heap.size } := ⟨_, rfl⟩
  obtain ⟨W1, hW1⟩ : ∃ W1, (w0.alloc (.deferred (some []))).alloc (.loop (rec .ready none)) = W1 := ⟨_, rfl⟩
  have hL1 : W1.heap[w0.heap.size + 1]? = some (.loop (rec .ready none)) := by
    rw [← hW1]; have := World.alloc_heap_new (w0.alloc (.deferred (some []))) (.loop (rec .ready none)); rwa [World.size_alloc] at this
  have hD1 : W1.heap[w0.heap.size]? = some (.deferred (some [])) := by
    rw [← hW1]; exact (Below.heap_alloc _ _ _ (by simp)).trans (World.alloc_heap_new w0 _)
  have hk1 : Keep Never w0 W1 := by rw [← hW1]; exact ((Keep.refl Never w0).alloc _).alloc _
  have hs1 : W1.heap.size = w0.heap.size + 2 := by rw [← hW1]; simp
  have hobl := hob.lt
  have hK1 : KE w0 ob N (w0.heap.size + 1) (rec .ready none) NoB [] W1 :=
    ⟨hk1.mono (fun _ _ h => h.elim), fun q h => h.elim, ⟨none, 0, 0, [], rfl, hob.keep hk1 (fun h => h), Own.nil _ _ _ _, trivial, fun q h => by obtain ⟨_, h, _⟩ := h; cases h⟩, hL1, hD1, hNo, hobl, by omega⟩
  have hJ : JOkE (fun T pre W => KE w0 ob N (w0.heap.size + 1) (rec .ready none) T pre W) := ⟨fun T T' pre W cs h hT => h.box cs hT, fun T T' pre W h hT => h.weak hT, fun T pre W q i v h hq => h.put hq i v, fun T pre W W' h hk => h.go hk⟩
  have hF2 : Far2 N W1 (fun q => q = ob ∨ w0.heap.size ≤ q) := fun q hq => by
    have hno : ∀ (t : TypeId) (cs : Array Value), t ≠ 50 → ¬ Blk W1 q t cs := fun t cs ht hb => by
      rcases hq with rfl | hq
      · exact Blk.ne_ (hob.keep hk1 (fun h => h)) hb (fun e => ht e.symm) rfl
      · have := hb.lt
        unfold Blk at hb
        by_cases e : q = w0.heap.size
        · subst e; rw [hD1] at hb; cases hb
        · obtain rfl : q = w0.heap.size + 1 := by omega
          rw [hL1] at hb; cases hb
    exact ⟨by rcases hq with h | h <;> omega, fun cs => hno _ cs (by decide), fun cs => hno _ cs (by decide)⟩
  refine ⟨w0.heap.size + 1, [{ target := .collected w0.heap.size, args := #[] }], W1, { target := .fn (.func 151) #[.pointer (some ⟨pa, 0, none⟩), .pointer (some ⟨pb, 0, none⟩)], args := #[.func (.yield (w0.heap.size + 1)) #[] #[]] }, W1, 151,
    #[.func (.yield (w0.heap.size + 1)) #[] #[]] ++ #[.pointer (some ⟨pa, 0, none⟩), .pointer (some ⟨pb, 0, none⟩)], W1, ?_, ?_, ?_, ?_, fun _ => by omega, ?_⟩
  · rw [← hW1, hrec]; exact run_enterLoop_outer _ _ _ _ _
  · simp only [resolve, hg]
    simp [go_sem]
  · intro f' hf'; trivial
  · have eg : ∀ args w, (callFunc 151 args).run Try.prog w = .ok (.enter 151 args) w := enters_of Try.func151 (by kernel_rfl) rfl
    simp [invoke, go_sem, eg]
  · refine (left1_in 2 (by omega) (w0.heap.size + 1) na pa pb na ca N Aa es g lb f (fun q => q = ob ∨ w0.heap.size ≤ q) _ hJ ?_ W1
      ((hk1.cell (cell_lt hpa) (fun h => h)).trans hpa) ((hk1.cell (cell_lt hpb) (fun h => h)).trans hpb) ?_ (ha.never hk1) hF2 hna hK1 (fun q hq => .inr (Nat.le_trans hk1.size hq)) (Nat.le_refl _) eg
      (fun W' e A n c hk he hs => hE W' e A n c ((hk1.mono (fun _ _ h => h.elim)).trans hk) he hs) (by omega)).mono ?_
    · -- a round
      intro T pre x A k c W hI hT hlen hsp
      have hlt := hI.lt
      have hy := run_yield (P := Try.prog) (args := #[.agg #[.int .i64 x.1, .int .i64 x.2.1, .slice A k c, .bool x.2.2.2]]) hI.loop (by rw [hrec]; exact hps.symm)
      rw [hrec] at hy
      refine ⟨fn, _, assign, body, hy, roundIn_of_wpIn hfn (hassign _ _ _ _ _ W _ ?_)⟩
      have hI2 := hI.box (T' := T) #[.int .i64 x.1, .int .i64 x.2.1, .slice A k c, .bool x.2.2.2] (fun q h => .inl h)
      have hbx := Blk.new W 77 #[.int .i64 x.1, .int .i64 x.2.1, .slice A k c, .bool x.2.2.2]
      have hka : Keep Never W (W.alloc (.cells #[.int .i64 x.1, .int .i64 x.2.1, .slice A k c, .bool x.2.2.2] 77)) := (Keep.refl Never W).alloc _
      refine ⟨_, run_beginRound hI2.loop (by rw [hrec]), ?_⟩
      have hI3 := hI2.turn { rec .ready none with state := .busy }
      have hp3 := putObj_keep (W.alloc (.cells #[.int .i64 x.1, .int .i64 x.2.1, .slice A k c, .bool x.2.2.2] 77)) (w0.heap.size + 1) (.loop { rec .ready none with state := .busy }) hI2.lt.1
      have hsp3 : SpG N _ A k c x.2.2.1 := (hsp.never hka).keep hp3 (fun q hq => by
        subst hq
        refine ⟨by omega, fun cs hb => ?_⟩
        unfold Blk at hb; rw [hI2.loop] at hb; cases hb)
      refine wpIn_mono (hbody _ _ T pre x A k c W.heap.size _ hI3 (hbx.keep hp3 (by omega)) hsp3 hlen) ?_
      rintro e a3 W3 ⟨rfl, hI4, hk4⟩
      refine ⟨_, _, run_endRound (P := Try.prog) none hI4.loop, rfl, ?_, ?_⟩
      · have := hI4.turn { { rec .ready none with state := .busy } with state := .ready, pending := none }
        rw [hrec] at this ⊢
        exact this
      · have hp5 := putObj_keep W3 (w0.heap.size + 1) (.loop { { rec .ready none with state := .busy } with state := if (none : Option Code).isNone then .ready else .done, pending := none }) hI4.lt.1
        have hTl : ¬ T (w0.heap.size + 1) := fun h => (hI.mine _ h).2.1 rfl
        exact (((hka.mono (fun _ _ h => h.elim)).trans (hp3.mono (fun q _ h => by subst h; exact ⟨.inr (by omega), hTl⟩))).trans hk4).trans (hp5.mono (fun q _ h => by subst h; exact ⟨.inr (by omega), hTl⟩))
    · constructor
      · rintro (h | h)
        · exact hne.1 h
        · have := cell_lt hpa; simp only at this; omega
      · rintro (h | h)
        · exact hne.2 h
        · have := cell_lt hpb; simp only at this; omega
    · rintro e W2 ⟨⟨v, rfl⟩, hI⟩
      refine ⟨none, _, (by have := run_endLoop (P := Try.prog) hI.loop (by rw [hrec]; simp); rw [hrec] at this; exact this), ?_⟩
      exact hdone _ _ _ (hI.turn _)
end Go.Proofs.Ytlcbajdckgcopaa
