/- Chapter 15: kept, Minus, Both, Within, Meets. -/
import Derived.Test.YtlcbajdckgcopaaSpnI
namespace Go.Proofs.Ytlcbajdckgcopaa
open Go.RowKit

attribute [local go_sem] Oper.semAt_some

/-- what the closure of kept leaves -/
def KeepRet (W : World) (ob base : Nat) (Ao : Option Addr) (out : List Sp) (W' : World) : Prop :=
  ∃ (A' : Option Addr) (n' c' : Nat), n' = out.length ∧ Blk W' ob 51 #[.slice A' n' c'] ∧ Own W' base 109 3 A' n' c' (spCells out) ∧ Keep (fun q => q = ob ∨ InRow Ao q) W W' ∧ ∀ q, InRow A' q → InRow Ao q ∨ W.heap.size ≤ q
set_option maxHeartbeats 2000000 in
set_option maxRecDepth 100000 in
theorem kept1_any (s : Sp) (has which : Bool) (wb ob base : Nat) (Ao : Option Addr) (no co : Nat) (out : List Sp) (w : World) (hw : w.cell? ⟨wb, 0, none⟩ = some (.bool which)) (hb : Blk w ob 51 #[.slice Ao no co]) (hno : no = out.length) (ho : Own w base 109 3 Ao no co (spCells out)) (hn : no ≤ 100000000000) (hbase : base ≤ w.heap.size) :
    Calls Try.prog 127 #[.agg #[.int .i64 s.1, .int .i64 s.2.1, .int .i64 s.2.2], .bool has, .pointer (some ⟨wb, 0, none⟩), .pointer (some ⟨ob, 0, none⟩)] w fun e w' => e = .returned (.tuple #[]) ∧ KeepRet w ob base Ao (out ++ if has == which then [s] else []) w' := by
  obtain ⟨s1, s2, s3⟩ := s
  simp only
  obtain ⟨w1, hw1⟩ : ∃ w1 : World, w.alloc (.cells #[.int .i64 s1, .int .i64 s2, .int .i64 s3] 109) = w1 := ⟨_, rfl⟩
  have hk1 : Keep Never w w1 := by rw [← hw1]; exact (Keep.refl _ _).alloc _
  have hx := Blk.new w 109 #[.int .i64 s1, .int .i64 s2, .int .i64 s3]
  rw [hw1] at hx
  obtain ⟨bx, hbx⟩ : ∃ q, w.heap.size = q := ⟨_, rfl⟩
  have hobx : ob < bx := by rw [← hbx]; exact hb.lt
  rw [hbx] at hx
  have HB := Lib.hid (hb.keep hk1 (fun h => h))
  have HO := Lib.hid (ho.keep hk1 (fun _ _ h => h))
  have HX := Lib.hid hx
  have HK := Lib.hid hk1
  have Hno := Lib.hid hno
  have Hbase := Lib.hid hbase
  have HBx := Lib.hid hbx
  have hwc : w1.cell? ⟨wb, 0, none⟩ = some (.bool which) := (hk1.cell (cell_lt hw) (fun h => h)).trans hw
  have o0 : w1.cell? ⟨ob, 0, none⟩ = some (.slice Ao no co) := HB.out.cell 0
  have f0 : w1.frozen? ⟨ob, 0, none⟩ = false := HB.out.frozen 0
  have x0 : w1.cell? ⟨bx, 0, none⟩ = some (.int .i64 s1) := hx.cell 0
  have x1 : w1.cell? ⟨bx, 1, none⟩ = some (.int .i64 s2) := hx.cell 1
  have x2 : w1.cell? ⟨bx, 2, none⟩ = some (.int .i64 s3) := hx.cell 2
  clear hw hb ho hk1 hx hno hbase
  by_cases hc : has = which
  · subst hc
    have t1 : (has == has) = true := by simp
    rw [if_pos t1]
    have Hnin : Hid (¬ InRow Ao ob) := Lib.hid (fun h => HO.out.ne_blk HB.out (by decide) ob h rfl)
    have hsz : base ≤ (w1.alloc (.cells #[.int .i64 s1, .int .i64 s2, .int .i64 s3] 109)).heap.size := by have := HK.out.size; have := Hbase.out; simp; omega
    go_enter Try.func127, Try.ntmps127
    go_wp2_with (at_builtin; refine wpList_app _ rfl (.tmp 9) (.tmp 11) _ rfl elemSp base (A := Ao) (n := no) (c := co) (by go_simp) (HO.out.alloc _) _ (A' := some ⟨w1.heap.size, 0, none⟩) (m := 1) (c' := 1) (by go_simp) (Rd.of_blk (n := 1) (cs := [.int .i64 s1, .int .i64 s2, .int .i64 s3]) (Blk.new w1 _ _) rfl) (by simp [Value.oneCell']) (by omega) (by unfold maxLen; omega) hsz ?_; intro A5 c5 w5 hown5 hk5 hrow5; have hb5 := (HB.out.alloc (.cells #[.int .i64 s1, .int .i64 s2, .int .i64 s3] 109)).keep hk5 Hnin.out; have o5 : w5.cell? ⟨ob, 0, none⟩ = some (.slice Ao no co) := hb5.cell 0; have f5 : w5.frozen? ⟨ob, 0, none⟩ = false := hb5.frozen 0; have HB5 := Lib.hid hb5; have HO5 := Lib.hid hown5; have HK5 := Lib.hid hk5; clear hb5 hown5 hk5)
    go_end0
    refine ⟨rfl, A5, no + 1, c5, by simp [Hno.out], HB5.out.set_ 0 _, ?_, ?_, fun q h => ?_⟩
    · rw [spCells_app]
      exact HO5.out.far (p := ⟨ob, 0, none⟩) (HO5.out.ne_blk HB5.out (by decide)) _
    · exact (((HK.out.mono (fun _ _ h => h.elim)).alloc _).then_ HK5.out (fun _ _ h => .inr h)).set_ (p := ⟨ob, 0, none⟩) (.inl (.inl rfl)) _
    · rcases hrow5 q h with h | h
      · exact .inl h
      · right; simp at h; have := HK.out.size; have := HBx.out; omega
  · have t1 : (has == which) = false := by simpa using hc
    rw [if_neg (by rw [t1]; simp)]
    clear hc
    go_enter Try.func127, Try.ntmps127
    go_wp2
    go_end0
    refine ⟨rfl, Ao, no, co, by simp [Hno.out], HB.out, by rw [List.append_nil]; exact HO.out, HK.out.mono (fun _ _ h => h.elim), fun q h => .inl h⟩

/-- what stands between two rounds of kept: l and D are the loop's own blocks -/
structure KI (w : World) (ob : Nat) (which : Bool) (l : Nat) (lp : Loop) (T : Nat → Prop) (pre : List (Sp × Bool)) (W : World) : Prop where
  keep : Keep (fun q => q = ob ∨ w.heap.size ≤ q) w W
  mine : ∀ q, T q → w.heap.size ≤ q ∧ q ≠ l ∧ q ≠ w.heap.size ∧ q < W.heap.size
  row : ∃ (Ao : Option Addr) (no co : Nat), no = (keptM which pre).length ∧ Blk W ob 51 #[.slice Ao no co] ∧ Own W w.heap.size 109 3 Ao no co (spCells (keptM which pre)) ∧ ∀ q, InRow Ao q → ¬ T q
  loop : W.heap[l]? = some (.loop lp)
  dfr : W.heap[w.heap.size]? = some (.deferred (some []))
theorem own_other {w w' : World} {base e size n c : Nat} {A : Option Addr} {xs : List Value} (h : Own w base e size A n c xs) {S : Nat → Prop} (hk : Keep S w w') (hS : ∀ q o, S q → w.heap[q]? = some o → o.isCells = false) : Own w' base e size A n c xs := by
  refine h.keep hk (fun q hq hs => ?_)
  obtain ⟨ad, rfl, rfl⟩ := hq
  rcases h.form with ⟨h1, _⟩ | ⟨g', cur, h1, hg, hb, _⟩
  · cases h1
  · injection h1 with h1
    subst h1
    have := hS _ _ hs hb
    cases this
/-- a row's block holds cells -/
theorem Own.cells_of {w : World} {base e size n c : Nat} {A : Option Addr} {xs : List Value} (h : Own w base e size A n c xs) {q : Nat} (hq : InRow A q) {o : Obj} (ho : w.heap[q]? = some o) : o.isCells = true := by
  obtain ⟨ad, rfl, rfl⟩ := hq
  rcases h.form with ⟨h1, _⟩ | ⟨g', cur, h1, hg, hb, _⟩
  · cases h1
  · injection h1 with h1
    subst h1
    unfold Blk at hb
    rw [hb] at ho
    injection ho with ho
    subst ho
    rfl
theorem putObj_keep (W : World) (l : Nat) (o : Obj) (hl : l < W.heap.size) : Keep (fun q => q = l) W (W.putObj l o) := by
  have hg := grownBy_putObj' W l o
  exact ⟨hg.os, hg.tape, hg.output, hg.size, fun k hk hn => hg.block k hk (fun e => hn (by injection e))⟩
namespace KI
variable {w W W' : World} {ob l : Nat} {which : Bool} {lp : Loop} {T T' : Nat → Prop} {pre : List (Sp × Bool)}
theorem lt (h : KI w ob which l lp T pre W) : l < W.heap.size ∧ w.heap.size < W.heap.size := ⟨(Array.getElem?_eq_some_iff.1 h.loop).1, (Array.getElem?_eq_some_iff.1 h.dfr).1⟩
theorem box (h : KI w ob which l lp T pre W) (cs : Array Value) (hT : ∀ q, T' q → T q ∨ q = W.heap.size) : KI w ob which l lp T' pre (W.alloc (.cells cs 109)) := by
  have hlt := h.lt
  refine ⟨h.keep.alloc _, fun q hq => ?_, ?_, (Below.heap_alloc W _ _ hlt.1).trans h.loop, (Below.heap_alloc W _ _ hlt.2).trans h.dfr⟩
  · rcases hT q hq with h' | rfl
    · have := h.mine q h'
      rw [World.size_alloc]
      omega
    · rw [World.size_alloc]
      exact ⟨by omega, by omega, by omega, by omega⟩
  · obtain ⟨Ao, no, co, h1, h2, h3, h4⟩ := h.row
    refine ⟨Ao, no, co, h1, h2.alloc _, h3.alloc _, fun q hq hq' => ?_⟩
    rcases hT q hq' with h' | rfl
    · exact h4 q hq h'
    · have := (h3.row hq).2; omega
theorem weak (h : KI w ob which l lp T pre W) (hT : ∀ q, T' q → T q) : KI w ob which l lp T' pre W := by
  refine ⟨h.keep, fun q hq => h.mine q (hT q hq), ?_, h.loop, h.dfr⟩
  obtain ⟨Ao, no, co, h1, h2, h3, h4⟩ := h.row
  exact ⟨Ao, no, co, h1, h2, h3, fun q hq hq' => h4 q hq (hT q hq')⟩
theorem put (h : KI w ob which l lp T pre W) (hob : ob < w.heap.size) {q : Nat} (hq : T q) (i : Nat) (v : Value) : KI w ob which l lp T pre (W.setCell ⟨q, i, none⟩ v) := by
  have hm := h.mine q hq
  refine ⟨h.keep.set_ (p := ⟨q, i, none⟩) (.inl (.inr hm.1)) v, fun q' h' => by have := h.mine q' h'; simpa [World.setCell] using this, ?_, (KeepsOthers.setCell W _ v).same _ _ h.loop rfl, (KeepsOthers.setCell W _ v).same _ _ h.dfr rfl⟩
  obtain ⟨Ao, no, co, h1, h2, h3, h4⟩ := h.row
  exact ⟨Ao, no, co, h1, h2.far (p := ⟨q, i, none⟩) (by simp only; omega) v, h3.far (p := ⟨q, i, none⟩) (fun k hk e => by simp only at e; subst e; exact h4 _ hk hq) v, h4⟩
/-- the record is turned -/
theorem turn (h : KI w ob which l lp T pre W) (hl : w.heap.size < l) (hob : ob < w.heap.size) (lp' : Loop) : KI w ob which l lp' T pre (W.putObj l (.loop lp')) := by
  have hlt := h.lt
  have hk := putObj_keep W l (.loop lp') hlt.1
  refine ⟨h.keep.trans (hk.mono (fun q _ e => .inr (by omega))), fun q' h' => by have := h.mine q' h'; have := hk.size; omega, ?_, World.putObj_heap_same hlt.1, (World.putObj_heap_other (by omega)).trans h.dfr⟩
  obtain ⟨Ao, no, co, h1, h2, h3, h4⟩ := h.row
  exact ⟨Ao, no, co, h1, h2.keep hk (by omega), own_other h3 hk (fun q o e ho => by subst e; rw [h.loop] at ho; injection ho with ho; subst ho; rfl), h4⟩
end KI

end Go.Proofs.Ytlcbajdckgcopaa
