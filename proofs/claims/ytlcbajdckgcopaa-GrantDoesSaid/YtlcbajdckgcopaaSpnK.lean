/- Chapter 15: kept. -/
import Derived.Test.YtlcbajdckgcopaaSpnJ
import Derived.Laws.EntriesVeiled
namespace Go.Proofs.Ytlcbajdckgcopaa
open Go.RowKit

attribute [local go_sem] Oper.semAt_some

theorem pieces_any (A1 A2 : Option Addr) (n1 c1 n2 c2 : Nat) (w : World) : Calls Try.prog 128 #[.slice A1 n1 c1, .slice A2 n2 c2] w fun e w' => e = .returned (.func (.func 152) #[] #[.pointer (some ⟨w.heap.size, 0, none⟩), .pointer (some ⟨w.heap.size + 1, 0, none⟩)]) ∧ w' = (w.alloc (.cells #[.slice A1 n1 c1] 51)).alloc (.cells #[.slice A2 n2 c2] 51) := by
  go_enter Try.func128, Try.ntmps128
  go_wp2
  go_ret
  exact ⟨rfl, rfl⟩

/-- the range over pieces: what a round of kept owes, and what comes behind -/
theorem wpIn_range_kept {g : Operand} {ps : Array Tmp} {assign body : Code} {Q : Exit → Act → World → Prop} {a : Act} {w0 : World} (pa pb na ca nb cb B B' ob : Nat) (Aa Ab : Option Addr) (m1 m2 : List Sp) (which : Bool)
    (hg : a.eval g = .func (.func 152) #[] #[.pointer (some ⟨pa, 0, none⟩), .pointer (some ⟨pb, 0, none⟩)]) (hps : ps.size = 2)
    (hpa : w0.cell? ⟨pa, 0, none⟩ = some (.slice Aa na ca)) (hpb : w0.cell? ⟨pb, 0, none⟩ = some (.slice Ab nb cb)) (hne : pa ≠ ob ∧ pb ≠ ob) (h1 : Rd w0 B 3 Aa na (spCells m1)) (h2 : Rd w0 B' 3 Ab nb (spCells m2))
    (hZa : ∀ ad, Aa = some ad → 0 < na → ad.block ≠ ob ∧ ad.block < w0.heap.size) (hZb : ∀ ad, Ab = some ad → 0 < nb → ad.block ≠ ob ∧ ad.block < w0.heap.size) (hna : na ≤ 1000000) (hnb : nb ≤ 1000000)
    (hob : Blk w0 ob 51 #[.slice none 0 0]) (a₁ : Nat → Sp × Bool → Act)
    (hassign : ∀ (l : Nat) (x : Sp × Bool) (W : World) (K : Act → World → Prop), K (a₁ W.heap.size x) (W.alloc (.cells #[.int .i64 x.1.1, .int .i64 x.1.2.1, .int .i64 x.1.2.2] 109)) →
      assign.wpIn (Fence.wide.inRound l) 1 Try.prog (Exit.then K (fun _ _ _ => False)) { tmps := (ps.zip #[.agg #[.int .i64 x.1.1, .int .i64 x.1.2.1, .int .i64 x.1.2.2], .bool x.2]).foldl (fun t (p, v) => t.setIfInBounds p v) a.tmps, defers := [] } W)
    (hbody : ∀ (l : Nat) (lp : Loop) (T : Nat → Prop) (pre : List (Sp × Bool)) (x : Sp × Bool) (q : Nat) (W : World), KI w0 ob which l lp T pre W → Blk W q 109 #[.int .i64 x.1.1, .int .i64 x.1.2.1, .int .i64 x.1.2.2] → w0.heap.size < l → pre.length < na * (2 * nb + 1) →
      body.wpIn (Fence.wide.inRound l) 1 Try.prog (fun e _ W' => e = .normal ∧ KI w0 ob which l lp T (pre ++ [x]) W' ∧ Keep (fun q => (q = ob ∨ w0.heap.size ≤ q) ∧ ¬ T q) W W') (a₁ q x) W)
    (hdone : ∀ (l : Nat) (lp : Loop) (W : World), KI w0 ob which l lp NoB (piecesM m1 m2) W → Q .normal { a with defers := { target := .collected w0.heap.size, args := #[] } :: a.defers } W) :
    (Code.rangeFunc g ps assign body).wpIn Fence.wide 3 Try.prog Q a w0 := by
  refine wpIn_rangeFunc ?_
  intro fn hfn
  rw [show Fence.wide.round = none from rfl]
  obtain ⟨rec, hrec⟩ : ∃ rec : LoopState → Option Code → Loop, rec = fun st pe => { state := st, pending := pe, fn, tmps := a.tmps, params := ps, assign, body, defers := w0.heap.size } := ⟨_, rfl⟩
  obtain ⟨W1, hW1⟩ : ∃ W1, (w0.alloc (.deferred (some []))).alloc (.loop (rec .ready none)) = W1 := ⟨_, rfl⟩
  have hL1 : W1.heap[w0.heap.size + 1]? = some (.loop (rec .ready none)) := by
    rw [← hW1]; have := World.alloc_heap_new (w0.alloc (.deferred (some []))) (.loop (rec .ready none)); rwa [World.size_alloc] at this
  have hD1 : W1.heap[w0.heap.size]? = some (.deferred (some [])) := by
    rw [← hW1]; exact (Below.heap_alloc _ _ _ (by simp)).trans (World.alloc_heap_new w0 _)
  have hk1 : Keep Never w0 W1 := by rw [← hW1]; exact ((Keep.refl Never w0).alloc _).alloc _
  have hK1 : KI w0 ob which (w0.heap.size + 1) (rec .ready none) NoB [] W1 :=
    ⟨hk1.mono (fun _ _ h => h.elim), fun q h => h.elim, ⟨none, 0, 0, rfl, hob.keep hk1 (fun h => h), Own.nil _ _ _ _, fun q h => by obtain ⟨_, h, _⟩ := h; cases h⟩, hL1, hD1⟩
  have hobl := hob.lt
  have hJ : JOk (fun T pre W => KI w0 ob which (w0.heap.size + 1) (rec .ready none) T pre W) := ⟨fun T T' pre W cs h hT => h.box cs hT, fun T T' pre W h hT => h.weak hT, fun T pre W q i v h hq => h.put hobl hq i v⟩
  refine ⟨w0.heap.size + 1, [{ target := .collected w0.heap.size, args := #[] }], W1, { target := .fn (.func 152) #[.pointer (some ⟨pa, 0, none⟩), .pointer (some ⟨pb, 0, none⟩)], args := #[.func (.yield (w0.heap.size + 1)) #[] #[]] }, W1, 152,
    #[.func (.yield (w0.heap.size + 1)) #[] #[]] ++ #[.pointer (some ⟨pa, 0, none⟩), .pointer (some ⟨pb, 0, none⟩)], W1, ?_, ?_, ?_, ?_, fun _ => by omega, ?_⟩
  · rw [← hW1, hrec]; exact run_enterLoop_outer _ _ _ _ _
  · simp only [resolve, hg]
    simp [go_sem]
  · intro f' hf'; trivial
  · have eg : ∀ args w, (callFunc 152 args).run Try.prog w = .ok (.enter 152 args) w := enters_of Try.func152 (by kernel_rfl) rfl
    simp [invoke, go_sem, eg]
  · refine (pieces1_in Fence.wide 2 trivial rfl (by omega) (w0.heap.size + 1) (na * (2 * nb + 1)) pa pb na ca nb cb B B' Aa Ab m1 m2 (fun q => q = ob ∨ w0.heap.size ≤ q) _ hJ ?_ W1
      ((hk1.cell (cell_lt hpa) (fun h => h)).trans hpa) ((hk1.cell (cell_lt hpb) (fun h => h)).trans hpb) ?_ (h1.keep hk1 (fun _ h => h.elim)) (h2.keep hk1 (fun _ h => h.elim)) ?_ ?_ hna hnb hK1 (fun q hq => .inr (Nat.le_trans hk1.size hq)) (Nat.le_refl _)).mono ?_
    · -- a round
      intro T pre x W hI hT hlen
      have hlt := hI.lt
      have hy := run_yield (P := Try.prog) (args := #[.agg #[.int .i64 x.1.1, .int .i64 x.1.2.1, .int .i64 x.1.2.2], .bool x.2]) hI.loop (by rw [hrec]; exact hps.symm)
      rw [hrec] at hy
      refine ⟨fn, _, assign, body, hy, roundIn_of_wpIn hfn (hassign _ x W _ ?_)⟩
      have hI2 := hI.box (T' := T) #[.int .i64 x.1.1, .int .i64 x.1.2.1, .int .i64 x.1.2.2] (fun q h => .inl h)
      have hbx := Blk.new W 109 #[.int .i64 x.1.1, .int .i64 x.1.2.1, .int .i64 x.1.2.2]
      have hka : Keep Never W (W.alloc (.cells #[.int .i64 x.1.1, .int .i64 x.1.2.1, .int .i64 x.1.2.2] 109)) := (Keep.refl Never W).alloc _
      refine ⟨_, run_beginRound hI2.loop (by rw [hrec]), ?_⟩
      have hI3 := hI2.turn (by omega) hobl { rec .ready none with state := .busy }
      have hp3 := putObj_keep (W.alloc (.cells #[.int .i64 x.1.1, .int .i64 x.1.2.1, .int .i64 x.1.2.2] 109)) (w0.heap.size + 1) (.loop { rec .ready none with state := .busy }) hI2.lt.1
      refine wpIn_mono (hbody _ _ T pre x W.heap.size _ hI3 (hbx.keep hp3 (by omega)) (by omega) hlen) ?_
      rintro e a3 W3 ⟨rfl, hI4, hk4⟩
      refine ⟨_, _, run_endRound (P := Try.prog) none hI4.loop, rfl, ?_, ?_⟩
      · have := hI4.turn (by omega) hobl { { rec .ready none with state := .busy } with state := .ready, pending := none }
        rw [hrec] at this ⊢
        exact this
      · have hp5 := putObj_keep W3 (w0.heap.size + 1) (.loop { { rec .ready none with state := .busy } with state := if (none : Option Code).isNone then .ready else .done, pending := none }) hI4.lt.1
        have hTl : ¬ T (w0.heap.size + 1) := fun h => (hI.mine _ h).2.1 rfl
        exact (((hka.mono (fun _ _ h => h.elim)).trans (hp3.mono (fun q _ h => by subst h; exact ⟨.inr (by omega), hTl⟩))).trans hk4).trans (hp5.mono (fun q _ h => by subst h; exact ⟨.inr (by omega), hTl⟩))
    · constructor
      · rintro (h | h)
        · exact hne.1 h
        · have := cell_lt hpa; simp only at this; omega
      · rintro (h | h)
        · exact hne.2 h
        · have := cell_lt hpb; simp only at this; omega
    · intro ad hA hp
      obtain ⟨h3, h4⟩ := hZa ad hA hp
      omega
    · intro ad hA hp
      obtain ⟨h3, h4⟩ := hZb ad hA hp
      omega
    · rintro e W2 ⟨⟨v, rfl⟩, hI⟩
      refine ⟨none, _, (by have := run_endLoop (P := Try.prog) hI.loop (by rw [hrec]; simp); rw [hrec] at this; exact this), ?_⟩
      exact hdone _ _ _ (hI.turn (by omega) hobl _)

set_option maxHeartbeats 8000000 in
set_option maxRecDepth 100000 in
theorem kept_any (A1 A2 : Option Addr) (n1 c1 n2 c2 B : Nat) (a b : List Sp) (which : Bool) (w : World) (h1 : Rd w B 3 A1 n1 (spCells a)) (hA1 : A1 = none → c1 = 0) (hc1 : n1 ≤ c1) (h2 : Rd w B 3 A2 n2 (spCells b)) (hA2 : A2 = none → c2 = 0) (hc2 : n2 ≤ c2) (hn1 : n1 ≤ 200000) (hn2 : n2 ≤ 200000) (hB : B ≤ w.heap.size) :
    Calls Try.prog 93 #[.slice A1 n1 c1, .slice A2 n2 c2, .bool which] w (SpRet w fun m => NormalS m ∧ (∀ e x, hasL m e x = (hasL a e x && (hasL b e x == which))) ∧ m.length ≤ n1 * (2 * n2 + 1)) := by
  obtain ⟨wA, hwA⟩ : ∃ wA : World, ((w.alloc (.cells #[.bool which] 4)).alloc (.cells #[.slice none 0 0] 51)).alloc (.cells #[.func (.func 127) #[] #[.pointer (some ⟨w.heap.size, 0, none⟩), .pointer (some ⟨w.heap.size + 1, 0, none⟩)]] 144) = wA := ⟨_, rfl⟩
  refine (callsIn_wide (n := 3)).1 ?_
  refine callsIn_of_wp_marks Try.func93 rfl trivial ?_ rfl
  simp only [Try.ntmps93, List.size_toArray, List.length_cons, List.length_nil, Nat.reduceAdd, Nat.reduceSub, Array.replicate_succ, Array.replicate_zero, List.push_toArray, List.append_toArray, List.nil_append, List.cons_append]
  have hkA : Keep Never w wA := by rw [← hwA]; exact (((Keep.refl Never w).alloc _).alloc _).alloc _
  have hWb : Blk wA w.heap.size 4 #[.bool which] := by rw [← hwA]; exact ((Blk.new w _ _).alloc _).alloc _
  have hOb : Blk wA (w.heap.size + 1) 51 #[.slice none 0 0] := by
    have := (Blk.new (w.alloc (.cells #[.bool which] 4)) 51 #[.slice none 0 0]).alloc (.cells #[.func (.func 127) #[] #[.pointer (some ⟨w.heap.size, 0, none⟩), .pointer (some ⟨w.heap.size + 1, 0, none⟩)]] 144)
    rw [World.size_alloc] at this
    rw [← hwA]; exact this
  have hFb : Blk wA (w.heap.size + 1 + 1) 144 #[.func (.func 127) #[] #[.pointer (some ⟨w.heap.size, 0, none⟩), .pointer (some ⟨w.heap.size + 1, 0, none⟩)]] := by
    have := Blk.new ((w.alloc (.cells #[.bool which] 4)).alloc (.cells #[.slice none 0 0] 51)) 144 #[.func (.func 127) #[] #[.pointer (some ⟨w.heap.size, 0, none⟩), .pointer (some ⟨w.heap.size + 1, 0, none⟩)]]
    rw [World.size_alloc, World.size_alloc] at this
    rw [← hwA]; exact this
  have HWA := Lib.hid (And.intro hkA (And.intro hWb (And.intro hOb hFb)))
  have HN1 := Lib.hid (norm_any A1 n1 c1 B a wA (h1.keep hkA (fun _ h => h.elim)) hA1 hc1 (by omega) (Nat.le_trans hB hkA.size))
  have HN2 := Lib.hid (fun W (hk : Keep Never w W) => norm_any A2 n2 c2 B b W (h2.keep hk (fun _ h => h.elim)) hA2 hc2 (by omega) (Nat.le_trans hB hk.size))
  have HLn := Lib.hid (And.intro h1.sp_len h2.sp_len)
  have HBw := Lib.hid hB
  clear h1 h2 hA1 hA2 hc1 hc2 hkA hWb hOb hFb hB
  gi_wp2_with fail
  refine ⟨trivial, (callsIn_wide.2 HN1.out).mono ?_⟩
  rintro e w1 ⟨m1, A3, n3, c3, rfl, hn3, ho3, hk1, hp3, hl3⟩
  have HK1 := Lib.hid (HWA.out.1.trans hk1)
  have HKA1 := Lib.hid hk1
  have HO3 := Lib.hid ho3
  have HP3 := Lib.hid (And.intro hn3 (And.intro hp3 hl3))
  have HN2' := Lib.hid (HN2.out w1 HK1.out)
  clear hn3 ho3 hk1 hp3 hl3 HN1 HN2
  gi_wp2_with fail
  refine ⟨trivial, (callsIn_wide.2 HN2'.out).mono ?_⟩
  rintro e w2 ⟨m2, A4, n4, c4, rfl, hn4, ho4, hk2, hp4, hl4⟩
  have HK2 := Lib.hid (HK1.out.trans hk2)
  have HKA2 := Lib.hid (HKA1.out.trans hk2)
  have HO3' := Lib.hid (HO3.out.keep hk2 (fun _ _ h => h))
  have HO4 := Lib.hid ho4
  have HP4 := Lib.hid (And.intro hn4 (And.intro hp4 hl4))
  clear hn4 ho4 hk2 hp4 hl4 HN2'
  gi_wp2_with fail
  refine ⟨trivial, (callsIn_wide.2 (pieces_any A3 A4 n3 c3 n4 c4 w2)).mono ?_⟩
  rintro e w3 ⟨rfl, rfl⟩
  obtain ⟨w0, hw0⟩ : ∃ w0 : World, (w2.alloc (.cells #[.slice A3 n3 c3] 51)).alloc (.cells #[.slice A4 n4 c4] 51) = w0 := ⟨_, rfl⟩
  have hk0 : Keep Never w2 w0 := by rw [← hw0]; exact ((Keep.refl Never w2).alloc _).alloc _
  have hpa : Blk w0 w2.heap.size 51 #[.slice A3 n3 c3] := by rw [← hw0]; exact (Blk.new w2 _ _).alloc _
  have hpb : Blk w0 (w2.heap.size + 1) 51 #[.slice A4 n4 c4] := by
    have := Blk.new (w2.alloc (.cells #[.slice A3 n3 c3] 51)) 51 #[.slice A4 n4 c4]
    rw [World.size_alloc] at this
    rw [← hw0]; exact this
  rw [hw0]
  have HK0 := Lib.hid (HK2.out.trans hk0)
  have HKA0 := Lib.hid (HKA2.out.trans hk0)
  have HOB := Lib.hid (HWA.out.2.2.1.keep HKA0.out (fun h => h))
  have HWB := Lib.hid (HWA.out.2.1.keep HKA0.out (fun h => h))
  have HFB := Lib.hid (HWA.out.2.2.2.keep HKA0.out (fun h => h))
  have HO3f := Lib.hid (HO3'.out.keep hk0 (fun _ _ h => h))
  have HO4f := Lib.hid (HO4.out.keep hk0 (fun _ _ h => h))
  have hobl := HWA.out.2.2.2.lt
  have hA0 := HKA0.out.size
  have hw2s := HKA2.out.size
  have hlen3 : n3 ≤ n1 := by have h1 := HP3.out; have h2 := HLn.out; omega
  have hlen4 : n4 ≤ n2 := by have h1 := HP4.out; have h2 := HLn.out; omega
  gi_wp2_with fail
  refine wpIn_range_kept (ps := #[17, 18]) w2.heap.size (w2.heap.size + 1) n3 c3 n4 c4 w0.heap.size w0.heap.size (w.heap.size + 1) A3 A4 m1 m2 which ?_ rfl (hpa.cell 0) (hpb.cell 0) ⟨by omega, by omega⟩ HO3f.out.rd HO4f.out.rd
    (fun ad hA _ => ⟨HO3f.out.ne_blk HOB.out (by decide) _ ⟨ad, hA, rfl⟩, (HO3f.out.row ⟨ad, hA, rfl⟩).2⟩) (fun ad hA _ => ⟨HO4f.out.ne_blk HOB.out (by decide) _ ⟨ad, hA, rfl⟩, (HO4f.out.row ⟨ad, hA, rfl⟩).2⟩) (by omega) (by omega) HOB.out
    (fun q x => { tmps := #[Value.slice A1 n1 c1, Value.slice A2 n2 c2, Value.bool which, undef, undef, Value.pointer (some { block := w.heap.size, off := 0 }), Value.slice none 0 0, Value.pointer (some { block := w.heap.size + 1, off := 0 }), Value.pointer (some { block := w.heap.size + 1 + 1, off := 0 }), Value.pointer (some ⟨q, 0, none⟩), Value.bool x.2,
          Value.func (Fn.func 127) #[] #[Value.pointer (some { block := w.heap.size, off := 0 }), Value.pointer (some { block := w.heap.size + 1, off := 0 })], Value.slice A1 n1 c1, Value.slice A3 n3 c3, Value.slice A2 n2 c2, Value.slice A4 n4 c4,
          Value.func (Fn.func 152) #[] #[Value.pointer (some { block := w2.heap.size, off := 0 }), Value.pointer (some { block := w2.heap.size + 1, off := 0 })], Value.agg #[.int .i64 x.1.1, .int .i64 x.1.2.1, .int .i64 x.1.2.2], Value.bool x.2, undef, undef, undef, undef, undef, undef], defers := [] }) ?_ ?_ ?_
  · rfl
  · intro l x W K hK
    obtain ⟨⟨x1, x2, x3⟩, xb⟩ := x
    simp only at hK ⊢
    gi_wp2
    exact hK
  · intro l lp T pre x q W hI hx hl hlen
    obtain ⟨⟨x1, x2, x3⟩, xb⟩ := x
    simp only at hx ⊢
    obtain ⟨Ao, no, co, hno, hB, hO, hT⟩ := hI.row
    have hkw : ∀ p : Nat, p < w0.heap.size → p ≠ w.heap.size + 1 → W.heap[p]? = w0.heap[p]? := fun p hp hne => hI.keep.block p hp (fun h => by rcases h with h | h <;> omega)
    have hwb : W.cell? ⟨w.heap.size, 0, none⟩ = some (.bool which) := (hI.keep.cell (p := ⟨w.heap.size, 0, none⟩) (by simp only; omega) (fun h => by rcases h with h | h <;> (simp only at h; omega))).trans (HWB.out.cell 0)
    have hfb : W.cell? ⟨w.heap.size + 1 + 1, 0, none⟩ = some (.func (.func 127) #[] #[.pointer (some ⟨w.heap.size, 0, none⟩), .pointer (some ⟨w.heap.size + 1, 0, none⟩)]) := (hI.keep.cell (p := ⟨w.heap.size + 1 + 1, 0, none⟩) (by simp only; omega) (fun h => by rcases h with h | h <;> (simp only at h; omega))).trans (HFB.out.cell 0)
    have hnob : no ≤ 100000000000 := by
      have h1 : (keptM which pre).length ≤ pre.length := by unfold keptM; rw [List.length_map]; exact List.length_filter_le _ _
      have h2 : n3 * (2 * n4 + 1) ≤ 200000 * (2 * 200000 + 1) := Nat.mul_le_mul (by omega) (by omega)
      omega
    have hc := kept1_any (x1, x2, x3) xb which w.heap.size (w.heap.size + 1) w0.heap.size Ao no co (keptM which pre) W hwb hB hno hO hnob hI.keep.size
    simp only at hc
    have HC := Lib.hid hc
    have HI := Lib.hid hI
    have HO := Lib.hid hO
    have HT := Lib.hid hT
    have x0 : W.cell? ⟨q, 0, none⟩ = some (.int .i64 x1) := hx.cell 0
    have x1' : W.cell? ⟨q, 1, none⟩ = some (.int .i64 x2) := hx.cell 1
    have x2' : W.cell? ⟨q, 2, none⟩ = some (.int .i64 x3) := hx.cell 2
    have eg : ∀ args w, (callFunc 127 args).run Try.prog w = .ok (.enter 127 args) w := enters_of Try.func127 (by kernel_rfl) rfl
    clear hc hI hB hO hT hno hx hkw
    gi_wp2_with fail
    refine ⟨trivial, (CallsIn.inRound l (callsIn_wide.2 HC.out)).mono ?_⟩
    rintro e W' ⟨rfl, A', n', c', hn', hB', hO', hk', hr'⟩
    gi_wp2
    have hmine := HI.out.mine
    have hlt := HI.out.lt
    have hS : ∀ q, (q = w.heap.size + 1 ∨ InRow Ao q) → (q = w.heap.size + 1 ∨ w0.heap.size ≤ q) ∧ ¬ T q := fun q h => by
      rcases h with rfl | h
      · exact ⟨.inl rfl, fun h => by have := hmine _ h; omega⟩
      · exact ⟨.inr (HO.out.row h).1, HT.out q h⟩
    have hkp : keptM which (pre ++ [((x1, x2, x3), xb)]) = keptM which pre ++ (if xb == which then [(x1, x2, x3)] else []) := by
      rw [keptM_app]
      congr 1
      unfold keptM
      cases xb <;> cases which <;> rfl
    refine ⟨⟨HI.out.keep.trans (hk'.mono (fun q _ h => (hS q h).1)), fun q h => by have := hmine q h; have := hk'.size; omega, ⟨A', n', c', by rw [hkp]; exact hn', hB', by rw [hkp]; exact hO', fun q hq hT => ?_⟩, ?_, ?_⟩, hk'.mono (fun q _ h => hS q h)⟩
    · rcases hr' q hq with h | h
      · exact HT.out q h hT
      · have := hmine q hT; omega
    · refine (hk'.block l hlt.1 (fun h => ?_)).trans HI.out.loop
      rcases h with h | h
      · omega
      · have := HO.out.cells_of h HI.out.loop; cases this
    · refine (hk'.block _ hlt.2 (fun h => ?_)).trans HI.out.dfr
      rcases h with h | h
      · omega
      · have := HO.out.cells_of h HI.out.dfr; cases this
  · intro l lp W hI
    obtain ⟨Ao, no, co, hno, hB, hO, _⟩ := hI.row
    have hKw : Keep Never w W := HK0.out.then_ hI.keep (fun i hi h => by rcases h with h | h <;> omega)
    have hnob : no ≤ 100000000000 := by
      have h1 : (keptM which (piecesM m1 m2)).length ≤ (piecesM m1 m2).length := by unfold keptM; rw [List.length_map]; exact List.length_filter_le _ _
      have h2 : n3 * (2 * n4 + 1) ≤ 200000 * (2 * 200000 + 1) := Nat.mul_le_mul (by omega) (by omega)
      have h3 := piecesM_len m1 m2
      rw [← HP3.out.1, ← HP4.out.1] at h3
      omega
    have HN := Lib.hid (norm_any Ao no co W.heap.size (keptM which (piecesM m1 m2)) W hO.rd (fun h => by
      rcases hO.form with ⟨_, _, h2, _⟩ | ⟨_, _, h2, _⟩
      · exact h2
      · rw [h] at h2; cases h2) hO.cap_le hnob (Nat.le_refl _))
    have o0 : W.cell? ⟨w.heap.size + 1, 0, none⟩ = some (.slice Ao no co) := hB.cell 0
    have HKw := Lib.hid hKw
    have HDf := Lib.hid hI.dfr
    have Hno := Lib.hid hno
    clear hI hno hB hO hKw
    gi_wp2_with fail
    refine ⟨trivial, (callsIn_wide.2 HN.out).mono ?_⟩
    rintro e w5 ⟨m, A5, n5, c5, rfl, hn5, ho5, hk5, hp5, hl5⟩
    have hdf : w5.heap[w0.heap.size]? = some (.deferred (some [])) := (hk5.block _ (Array.getElem?_eq_some_iff.1 HDf.out).1 (fun h => h)).trans HDf.out
    have HK5 := Lib.hid (HKw.out.trans hk5)
    have HO5 := Lib.hid (Own.less ho5 HKw.out.size)
    have HP5 := Lib.hid (And.intro hn5 (And.intro hp5 hl5))
    have HD5 := Lib.hid hdf
    clear hn5 ho5 hk5 hp5 hl5 hdf
    gi_wp2_with fail
    have hlt5 := (Array.getElem?_eq_some_iff.1 HD5.out).1
    have hpk := putObj_keep w5 w0.heap.size (.deferred none) hlt5
    have hfin : SpRet w (fun m => NormalS m ∧ (∀ e x, hasL m e x = (hasL a e x && (hasL b e x == which))) ∧ m.length ≤ n1 * (2 * n2 + 1)) (.returned (.slice A5 n5 c5)) (w5.putObj w0.heap.size (.deferred none)) := by
      refine ⟨m, A5, n5, c5, rfl, HP5.out.1, own_other HO5.out hpk (fun q o e ho => by subst e; rw [HD5.out] at ho; injection ho with ho; subst ho; rfl), HK5.out.then_ hpk (fun i hi h => by have := HK0.out.size; omega), HP5.out.2.1.1, fun e x => ?_, ?_⟩
      · rw [HP5.out.2.1.2 e x, piecesM_has which HP3.out.2.1.1 HP4.out.2.1.1, HP3.out.2.1.2, HP4.out.2.1.2]
      · have h1 : (keptM which (piecesM m1 m2)).length ≤ (piecesM m1 m2).length := by unfold keptM; rw [List.length_map]; exact List.length_filter_le _ _
        have h3 := piecesM_len m1 m2
        have h5 := HP5.out.2.2
        rw [← HP3.out.1, ← HP4.out.1] at h3
        have h4 : n3 * (2 * n4 + 1) ≤ n1 * (2 * n2 + 1) := Nat.mul_le_mul hlen3 (by omega)
        omega
    refine ⟨by simp, .inl ⟨_, _, rfl, run_takeDeferred HD5.out, ?_⟩⟩
    refine ⟨_, results_tmp rfl _ _ _, ?_⟩
    exact hfin

end Go.Proofs.Ytlcbajdckgcopaa
