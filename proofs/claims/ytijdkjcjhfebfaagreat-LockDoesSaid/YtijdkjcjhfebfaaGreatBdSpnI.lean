/- Chapter 15: the iterator of pieces. -/
import Derived.Test.YtijdkjcjhfebfaaGreatSpnH
import Derived.RangeFuncNested
import Derived.RangeFuncBound
import Derived.RangeFuncCalls
import Derived.RangeFuncLeaves
import Derived.OwnWalkIn
import Derived.TacticsInMore
import Derived.LoopNIn
import Derived.LoopIn
import Derived.Laws.EntriesVeiled
namespace Go.Proofs.YtijdkjcjhfebfaaGreat
open Go.RowKit

attribute [local go_sem] Oper.semAt_some

/-- what stands between two rounds: T are the blocks that the iterator keeps for itself -/
structure JOk (J : (Nat → Prop) → List (Sp × Bool) → World → Prop) : Prop where
  box : ∀ T T' pre W cs, J T pre W → (∀ q, T' q → T q ∨ q = W.heap.size) → J T' pre (W.alloc (.cells cs 68))
  weak : ∀ T T' pre W, J T pre W → (∀ q, T' q → T q) → J T' pre W
  put : ∀ T pre W q i v, J T pre W → T q → J T pre (W.setCell ⟨q, i, none⟩ v)
/-- no block -/
def NoB (_ : Nat) : Prop := False
/-- a round of the caller's -/
def RoundOk (F : Fence) (n l N : Nat) (Z : Nat → Prop) (J : (Nat → Prop) → List (Sp × Bool) → World → Prop) : Prop :=
  ∀ (T : Nat → Prop) (pre : List (Sp × Bool)) (x : Sp × Bool) (W : World), J T pre W → (∀ q, T q → q < W.heap.size) → pre.length < N →
    YieldAt F (n - 1) Tryz.prog l #[.agg #[.int .i64 x.1.1, .int .i64 x.1.2.1, .int .i64 x.1.2.2], .bool x.2] W fun e W' => e = .returned (.bool true) ∧ J T (pre ++ [x]) W' ∧ Keep (fun q => Z q ∧ ¬ T q) W W'

set_option maxHeartbeats 8000000 in
set_option maxRecDepth 100000 in
theorem pieces1_in (F : Fence) (n : Nat) (h75 : F.fn 120) (hro : F.round = none) (hn : 1 ≤ n) (l N pa pb na ca nb cb B B' : Nat) (Aa Ab : Option Addr) (a b : List Sp) (Z : Nat → Prop) (J : (Nat → Prop) → List (Sp × Bool) → World → Prop) (hJ : JOk J)
    (hY : RoundOk F n l N Z J) (W : World) (hpa : W.cell? ⟨pa, 0, none⟩ = some (.slice Aa na ca)) (hpb : W.cell? ⟨pb, 0, none⟩ = some (.slice Ab nb cb)) (hZ : ¬ Z pa ∧ ¬ Z pb) (ha : Rd W B 3 Aa na (spCells a)) (hb : Rd W B' 3 Ab nb (spCells b))
    (hZa : ∀ ad, Aa = some ad → 0 < na → ¬ Z ad.block) (hZb : ∀ ad, Ab = some ad → 0 < nb → ¬ Z ad.block) (hna : na ≤ 1000000) (hnb : nb ≤ 1000000) (h0 : J NoB [] W) (hZn : ∀ q, W.heap.size ≤ q → Z q) (hN : na * (2 * nb + 1) ≤ N) :
    CallsIn F n Tryz.prog 120 #[.func (.yield l) #[] #[], .pointer (some ⟨pa, 0, none⟩), .pointer (some ⟨pb, 0, none⟩)] W fun e W' => (∃ v, e = .returned v) ∧ J NoB (piecesM a b) W' := by
  have HR := Lib.hid (And.intro ha hb)
  have HZ := Lib.hid (And.intro hZ (And.intro hZa (And.intro hZb hZn)))
  have HL : Hid (a.length = na ∧ b.length = nb) := Lib.hid ⟨ha.sp_len, hb.sp_len⟩
  have HC := Lib.hid (And.intro hpa hpb)
  have HJ := Lib.hid hJ
  have HY := Lib.hid hY
  have H0 := Lib.hid h0
  clear ha hb hZ hZa hZb hZn hJ hY h0
  refine callsIn_of_wp Tryz.func120 rfl h75 ?_ hro
  simp only [Tryz.ntmps120, List.size_toArray, List.length_cons, List.length_nil, Nat.reduceAdd, Nat.reduceSub, Array.replicate_succ, Array.replicate_zero, List.push_toArray, List.append_toArray, List.nil_append, List.cons_append]
  gi_wp2
  gi_loopw [10] (fun i wr => ∃ k : Nat, k ≤ na ∧ i = .int .i64 k ∧ Hid (J NoB (piecesM (a.take k) b) wr ∧ Keep Z W wr)) (fun i _ => na - (intOf i).toNat)
  case atStart => exact ⟨0, by omega, rfl, Lib.hid ⟨by simpa [piecesM] using H0.out, Keep.refl _ _⟩⟩
  case round =>
    obtain ⟨k, hk, rfl, HH⟩ := hrel
    by_cases hlt : k < na
    · have hkz : (k : Int) < (na : Int) := by omega
      have hrd := HR.out.1.keep_far HH.out.2 HZ.out.2.1
      obtain ⟨ad, s, hA, _, hs, c0, c1, c2⟩ := hrd.sp hlt
      subst hA
      have hpb' : wr.cell? ⟨pb, 0, none⟩ = some (.slice Ab nb cb) := (HH.out.2.cell (cell_lt HC.out.2) HZ.out.1.2).trans HC.out.2
      obtain ⟨s1, s2, s3⟩ := s
      simp only at c0 c1 c2
      have hpc : piecesM (a.take (k + 1)) b = piecesM (a.take k) b ++ pieceM (s1, s2, s3) b := by
        obtain ⟨h2, h3⟩ := List.getElem?_eq_some_iff.1 hs
        rw [List.take_succ_eq_append_getElem h2, h3]; simp [piecesM]
      have Hpc := Lib.hid hpc
      have HlN : Hid ((piecesM (a.take (k + 1)) b).length ≤ N) := Lib.hid (by
        have h1 := piecesM_len (a.take (k + 1)) b
        have h2 : (a.take (k + 1)).length ≤ na := by rw [List.length_take]; have := HL.out.1; omega
        rw [HL.out.2] at h1
        exact Nat.le_trans h1 (Nat.le_trans (Nat.mul_le_mul_right _ h2) hN))
      obtain ⟨w5, hw5⟩ : ∃ w5 : World, wr.alloc (.cells #[.int .i64 s1, .int .i64 s2, .int .i64 s3] 68) = w5 := ⟨_, rfl⟩
      have hB5 := Blk.new wr 68 #[.int .i64 s1, .int .i64 s2, .int .i64 s3]
      have hk5 : Keep Z W w5 := by rw [← hw5]; exact HH.out.2.alloc _
      have hJ5 : J (fun q => q = wr.heap.size) (piecesM (a.take k) b) w5 := by rw [← hw5]; exact HJ.out.box _ _ _ _ _ HH.out.1 (fun q h => .inr h)
      rw [hw5] at hB5
      have HB5 := Lib.hid hB5
      have HK5 := Lib.hid hk5
      have HJ5 := Lib.hid hJ5
      have Hbs : Hid (W.heap.size ≤ wr.heap.size) := Lib.hid HH.out.2.size
      obtain ⟨bs, hbs⟩ : ∃ q, wr.heap.size = q := ⟨_, rfl⟩
      rw [hbs] at HB5 HJ5 Hbs
      have hpb5 : w5.cell? ⟨pb, 0, none⟩ = some (.slice Ab nb cb) := (HK5.out.cell (cell_lt HC.out.2) HZ.out.1.2).trans HC.out.2
      clear hrd hs hpc hB5 hk5 hJ5 HH
      gi_wp2
      gi_loopw [16] (fun i wi => ∃ (j : Nat) (lo : Int) (pre : List (Sp × Bool)), j ≤ nb ∧ i = .int .i64 j ∧ Hid (J (fun q => q = bs) pre wi ∧ Keep Z W wi ∧ Blk wi bs 68 #[.int .i64 s1, .int .i64 lo, .int .i64 s3] ∧ pre ++ pieceM (s1, lo, s3) (b.drop j) = piecesM (a.take (k + 1)) b)) (fun i _ => nb - (intOf i).toNat)
      case atStart => exact ⟨0, s2, _, by omega, rfl, Lib.hid ⟨HJ5.out, HK5.out, HB5.out, by rw [Hpc.out]; rfl⟩⟩
      case round =>
        obtain ⟨j, lo, pre, hj, rfl, HI⟩ := hrel
        obtain ⟨wi, rfl⟩ : ∃ wi : World, wi = wr := ⟨_, rfl⟩
        by_cases hjb : j < nb
        · have hjz : (j : Int) < (nb : Int) := by omega
          have hrd := HR.out.2.keep_far HI.out.2.1 HZ.out.2.2.1
          obtain ⟨ad2, x, hA2, _, hx, e0, e1, e2⟩ := hrd.sp hjb
          subst hA2
          obtain ⟨x1, x2, x3⟩ := x
          simp only at e0 e1 e2
          have Hdr : Hid (b.drop j = (x1, x2, x3) :: b.drop (j + 1)) := Lib.hid (by
            obtain ⟨h2, h3⟩ := List.getElem?_eq_some_iff.1 hx
            rw [List.drop_eq_getElem_cons h2, h3])
          have Heq := Lib.hid HI.out.2.2.2
          obtain ⟨w6, hw6⟩ : ∃ w6 : World, wi.alloc (.cells #[.int .i64 x1, .int .i64 x2, .int .i64 x3] 68) = w6 := ⟨_, rfl⟩
          have hbl := Blk.new wi 68 #[.int .i64 x1, .int .i64 x2, .int .i64 x3]
          have hbs6 := HI.out.2.2.1.alloc (.cells #[.int .i64 x1, .int .i64 x2, .int .i64 x3] 68)
          have hk6 : Keep Z W (wi.alloc (.cells #[.int .i64 x1, .int .i64 x2, .int .i64 x3] 68)) := HI.out.2.1.alloc _
          have hj6 : J (fun q => q = bs ∨ q = wi.heap.size) pre (wi.alloc (.cells #[.int .i64 x1, .int .i64 x2, .int .i64 x3] 68)) ∧ J (fun q => q = bs) pre (wi.alloc (.cells #[.int .i64 x1, .int .i64 x2, .int .i64 x3] 68)) := ⟨HJ.out.box _ _ _ _ _ HI.out.1 (fun q h => h), HJ.out.box _ _ _ _ _ HI.out.1 (fun q h => .inl h)⟩
          rw [hw6] at hbl hbs6 hk6 hj6
          obtain ⟨bx, hbx⟩ : ∃ q, wi.heap.size = q := ⟨_, rfl⟩
          rw [hbx] at hbl hj6
          have HX6 := Lib.hid hbl
          have HS6 := Lib.hid hbs6
          have HK6 := Lib.hid hk6
          have HJ6 := Lib.hid hj6
          have y0 : w6.cell? ⟨bs, 0, none⟩ = some (.int .i64 s1) := hbs6.cell 0
          have y1 : w6.cell? ⟨bs, 1, none⟩ = some (.int .i64 lo) := hbs6.cell 1
          have y2 : w6.cell? ⟨bs, 2, none⟩ = some (.int .i64 s3) := hbs6.cell 2
          have z0 : w6.cell? ⟨bx, 0, none⟩ = some (.int .i64 x1) := hbl.cell 0
          have z1 : w6.cell? ⟨bx, 1, none⟩ = some (.int .i64 x2) := hbl.cell 1
          have z2 : w6.cell? ⟨bx, 2, none⟩ = some (.int .i64 x3) := hbl.cell 2
          have HT : Hid (∀ q, (q = bs ∨ q = bx) → q < w6.heap.size) := Lib.hid (fun q h => by rcases h with rfl | rfl; exact hbs6.lt; exact hbl.lt)
          clear hrd hx hbl hbs6 hk6 hj6 HI c0 c1 c2
          by_cases hc1 : x1 = s1
          · have t1 : (x1 != s1) = false := by simpa using hc1
            by_cases hc2 : x3 ≤ lo
            · have t2 : decide (x3 ≤ lo) = true := by simpa using hc2
              have hJ8 : J (fun q => q = bs) pre w6 := HJ6.out.2
              have HF : Hid (J (fun q => q = bs) pre w6 ∧ Keep Z W w6 ∧ Blk w6 bs 68 #[.int .i64 s1, .int .i64 lo, .int .i64 s3] ∧ pre ++ pieceM (s1, lo, s3) (b.drop (j + 1)) = piecesM (a.take (k + 1)) b) := by
                refine Lib.hid ⟨hJ8, HK6.out, HS6.out, ?_⟩
                rw [← Heq.out, Hdr.out, pieceM, if_pos (by exact .inr (.inl hc2))]
              clear hJ8 hc1 hc2
              gi_wp2
              go_roundw
              case rel => exact ⟨j + 1, lo, pre, by omega, by go_num, HF⟩
              case measure => simp [intOf]; try omega
            · have t2 : decide (x3 ≤ lo) = false := by simpa using hc2
              by_cases hc3 : x2 ≥ s3
              · have t3 : decide (x2 ≥ s3) = true := by simpa using hc3
                have hJ8 : J (fun q => q = bs) pre w6 := HJ6.out.2
                have HF : Hid (J (fun q => q = bs) pre w6 ∧ Keep Z W w6 ∧ Blk w6 bs 68 #[.int .i64 s1, .int .i64 lo, .int .i64 s3] ∧ pre ++ pieceM (s1, lo, s3) (b.drop (j + 1)) = piecesM (a.take (k + 1)) b) := by
                  refine Lib.hid ⟨hJ8, HK6.out, HS6.out, ?_⟩
                  rw [← Heq.out, Hdr.out, pieceM, if_pos (by exact .inr (.inr hc3))]
                clear hJ8 hc1 hc2 hc3
                gi_wp2
                go_roundw
                case rel => exact ⟨j + 1, lo, pre, by omega, by go_num, HF⟩
                case measure => simp [intOf]; try omega
              · have t3 : decide (x2 ≥ s3) = false := by simpa using hc3
                have Hstep : Hid (pieceM (s1, lo, s3) (b.drop j) = (if lo < x2 then [((s1, lo, x2), false)] else []) ++ ((s1, max lo x2, min s3 x3), true) :: pieceM (s1, min s3 x3, s3) (b.drop (j + 1))) := Lib.hid (by
                  rw [Hdr.out, pieceM, if_neg (by simp only; omega)])
                clear hc1 hc2 hc3
                by_cases hc4 : x2 > lo
                · have t4 : decide (x2 > lo) = true := by simpa using hc4
                  have Hst := Lib.hid (Hstep.out.trans (by rw [if_pos hc4]))
                  clear Hstep hc4
                  obtain ⟨fn, tmps, assign, body, hy, hR⟩ := HY.out _ pre ((s1, lo, x2), false) w6 HJ6.out.1 HT.out (by have h1 := congrArg List.length Heq.out; rw [Hst.out] at h1; simp only [List.length_append, List.length_cons] at h1; have := HlN.out; omega)
                  dsimp only at hy
                  gi_wp2
                  refine hR.mono ?_
                  rintro e w7 ⟨rfl, hJ7, hk7⟩
                  have HS7 := Lib.hid (HS6.out.keep hk7 (fun h => h.2 (.inl rfl)))
                  have HX7 := Lib.hid (HX6.out.keep hk7 (fun h => h.2 (.inr rfl)))
                  have HK7 := Lib.hid (HK6.out.trans (hk7.mono (fun _ _ h => h.1)))
                  have HJ7 := Lib.hid hJ7
                  clear hJ7 hk7 hy hR y0 y1 y2 z0 z1 z2
                  have v0 : w7.cell? ⟨bs, 0, none⟩ = some (.int .i64 s1) := HS7.out.cell 0
                  have v1 : w7.cell? ⟨bs, 1, none⟩ = some (.int .i64 lo) := HS7.out.cell 1
                  have v2 : w7.cell? ⟨bs, 2, none⟩ = some (.int .i64 s3) := HS7.out.cell 2
                  have u0 : w7.cell? ⟨bx, 0, none⟩ = some (.int .i64 x1) := HX7.out.cell 0
                  have u1 : w7.cell? ⟨bx, 1, none⟩ = some (.int .i64 x2) := HX7.out.cell 1
                  have u2 : w7.cell? ⟨bx, 2, none⟩ = some (.int .i64 x3) := HX7.out.cell 2
                  obtain ⟨fn2, tmps2, assign2, body2, hy2, hR2⟩ := HY.out _ (pre ++ [((s1, lo, x2), false)]) ((s1, max lo x2, min s3 x3), true) w7 HJ7.out (fun q h => by rcases h with rfl | rfl; exact HS7.out.lt; exact HX7.out.lt) (by have h1 := congrArg List.length Heq.out; rw [Hst.out] at h1; simp only [List.length_append, List.length_cons, List.length_nil] at h1 ⊢; have := HlN.out; omega)
                  dsimp only at hy2
                  gi_wp2
                  refine hR2.mono ?_
                  rintro e w8 ⟨rfl, hJ8, hk8⟩
                  have hs8 := HS7.out.keep hk8 (fun h => h.2 (.inl rfl))
                  have hx8 := HX7.out.keep hk8 (fun h => h.2 (.inr rfl))
                  have r0 : w8.cell? ⟨bs, 0, none⟩ = some (.int .i64 s1) := hs8.cell 0
                  have r1 : w8.cell? ⟨bs, 1, none⟩ = some (.int .i64 lo) := hs8.cell 1
                  have r2 : w8.cell? ⟨bs, 2, none⟩ = some (.int .i64 s3) := hs8.cell 2
                  have r3 : w8.cell? ⟨bx, 2, none⟩ = some (.int .i64 x3) := hx8.cell 2
                  have r4 : w8.frozen? ⟨bs, 1, none⟩ = false := hs8.frozen 1
                  have HF : Hid (J (fun q => q = bs) ((pre ++ [((s1, lo, x2), false)]) ++ [((s1, max lo x2, min s3 x3), true)]) (w8.setCell ⟨bs, 1, none⟩ (.int .i64 (min s3 x3))) ∧ Keep Z W (w8.setCell ⟨bs, 1, none⟩ (.int .i64 (min s3 x3))) ∧ Blk (w8.setCell ⟨bs, 1, none⟩ (.int .i64 (min s3 x3))) bs 68 #[.int .i64 s1, .int .i64 (min s3 x3), .int .i64 s3] ∧ ((pre ++ [((s1, lo, x2), false)]) ++ [((s1, max lo x2, min s3 x3), true)]) ++ pieceM (s1, min s3 x3, s3) (b.drop (j + 1)) = piecesM (a.take (k + 1)) b) := by
                    refine Lib.hid ⟨HJ.out.weak _ _ _ _ (HJ.out.put _ _ _ bs 1 _ hJ8 (.inl rfl)) (fun q h => .inl h), (HK7.out.trans (hk8.mono (fun _ _ h => h.1))).set_ (p := ⟨bs, 1, none⟩) (.inr Hbs.out) _, hs8.set_ 1 _, ?_⟩
                    rw [← Heq.out, Hst.out]
                    simp
                  clear hJ8 hk8 hs8 hx8
                  gi_wp2
                  go_roundw
                  case rel => exact ⟨j + 1, min s3 x3, _, by omega, by go_num, HF⟩
                  case measure => simp [intOf]; try omega
                · have t4 : decide (x2 > lo) = false := by simpa using hc4
                  have Hst := Lib.hid (Hstep.out.trans (by rw [if_neg hc4]))
                  clear Hstep hc4 y0 y1 y2 z0 z1 z2
                  have v0 : w6.cell? ⟨bs, 0, none⟩ = some (.int .i64 s1) := HS6.out.cell 0
                  have v1 : w6.cell? ⟨bs, 1, none⟩ = some (.int .i64 lo) := HS6.out.cell 1
                  have v2 : w6.cell? ⟨bs, 2, none⟩ = some (.int .i64 s3) := HS6.out.cell 2
                  have u0 : w6.cell? ⟨bx, 0, none⟩ = some (.int .i64 x1) := HX6.out.cell 0
                  have u1 : w6.cell? ⟨bx, 1, none⟩ = some (.int .i64 x2) := HX6.out.cell 1
                  have u2 : w6.cell? ⟨bx, 2, none⟩ = some (.int .i64 x3) := HX6.out.cell 2
                  obtain ⟨fn2, tmps2, assign2, body2, hy2, hR2⟩ := HY.out _ pre ((s1, max lo x2, min s3 x3), true) w6 HJ6.out.1 (fun q h => by rcases h with rfl | rfl; exact HS6.out.lt; exact HX6.out.lt) (by have h1 := congrArg List.length Heq.out; rw [Hst.out] at h1; simp only [List.length_append, List.length_cons, List.length_nil] at h1 ⊢; have := HlN.out; omega)
                  dsimp only at hy2
                  gi_wp2
                  refine ⟨fun _ h => (by cases h), ?_⟩
                  gi_wp2
                  refine hR2.mono ?_
                  rintro e w8 ⟨rfl, hJ8, hk8⟩
                  have hs8 := HS6.out.keep hk8 (fun h => h.2 (.inl rfl))
                  have hx8 := HX6.out.keep hk8 (fun h => h.2 (.inr rfl))
                  have r0 : w8.cell? ⟨bs, 0, none⟩ = some (.int .i64 s1) := hs8.cell 0
                  have r1 : w8.cell? ⟨bs, 1, none⟩ = some (.int .i64 lo) := hs8.cell 1
                  have r2 : w8.cell? ⟨bs, 2, none⟩ = some (.int .i64 s3) := hs8.cell 2
                  have r3 : w8.cell? ⟨bx, 2, none⟩ = some (.int .i64 x3) := hx8.cell 2
                  have r4 : w8.frozen? ⟨bs, 1, none⟩ = false := hs8.frozen 1
                  have HF : Hid (J (fun q => q = bs) (pre ++ [((s1, max lo x2, min s3 x3), true)]) (w8.setCell ⟨bs, 1, none⟩ (.int .i64 (min s3 x3))) ∧ Keep Z W (w8.setCell ⟨bs, 1, none⟩ (.int .i64 (min s3 x3))) ∧ Blk (w8.setCell ⟨bs, 1, none⟩ (.int .i64 (min s3 x3))) bs 68 #[.int .i64 s1, .int .i64 (min s3 x3), .int .i64 s3] ∧ (pre ++ [((s1, max lo x2, min s3 x3), true)]) ++ pieceM (s1, min s3 x3, s3) (b.drop (j + 1)) = piecesM (a.take (k + 1)) b) := by
                    refine Lib.hid ⟨HJ.out.weak _ _ _ _ (HJ.out.put _ _ _ bs 1 _ hJ8 (.inl rfl)) (fun q h => .inl h), (HK6.out.trans (hk8.mono (fun _ _ h => h.1))).set_ (p := ⟨bs, 1, none⟩) (.inr Hbs.out) _, hs8.set_ 1 _, ?_⟩
                    rw [← Heq.out, Hst.out]
                    simp
                  clear hJ8 hk8 hs8 hx8
                  gi_wp2
                  go_roundw
                  case rel => exact ⟨j + 1, min s3 x3, _, by omega, by go_num, HF⟩
                  case measure => simp [intOf]; try omega
          · have t1 : (x1 != s1) = true := by simpa using hc1
            have hJ8 : J (fun q => q = bs) pre w6 := HJ6.out.2
            have HF : Hid (J (fun q => q = bs) pre w6 ∧ Keep Z W w6 ∧ Blk w6 bs 68 #[.int .i64 s1, .int .i64 lo, .int .i64 s3] ∧ pre ++ pieceM (s1, lo, s3) (b.drop (j + 1)) = piecesM (a.take (k + 1)) b) := by
              refine Lib.hid ⟨hJ8, HK6.out, HS6.out, ?_⟩
              rw [← Heq.out, Hdr.out, pieceM, if_pos (by exact .inl hc1)]
            clear hJ8 hc1
            gi_wp2
            go_roundw
            case rel => exact ⟨j + 1, lo, pre, by omega, by go_num, HF⟩
            case measure => simp [intOf]; try omega
        · obtain rfl : j = nb := by omega
          have hjz : ¬ (j : Int) < (j : Int) := by omega
          have hbe : b.drop j = [] := List.drop_eq_nil_of_le (by have := HL.out.2; omega)
          have heq := HI.out.2.2.2
          rw [hbe] at heq
          have HJi := Lib.hid HI.out.1
          have HKi := Lib.hid HI.out.2.1
          have HSi := Lib.hid HI.out.2.2.1
          have y0 : wi.cell? ⟨bs, 0, none⟩ = some (.int .i64 s1) := HSi.out.cell 0
          have y1 : wi.cell? ⟨bs, 1, none⟩ = some (.int .i64 lo) := HSi.out.cell 1
          have y2 : wi.cell? ⟨bs, 2, none⟩ = some (.int .i64 s3) := HSi.out.cell 2
          clear HI c0 c1 c2 hbe
          by_cases hlo : lo < s3
          · have t1 : decide (lo < s3) = true := by simpa using hlo
            have Heq := Lib.hid (heq.symm.trans (show pre ++ pieceM (s1, lo, s3) [] = pre ++ [((s1, lo, s3), false)] by unfold pieceM; rw [if_pos hlo]))
            obtain ⟨fn, tmps, assign, body, hy, hR⟩ := HY.out _ pre ((s1, lo, s3), false) wi HJi.out (fun q h => by subst h; exact HSi.out.lt) (by have h1 := congrArg List.length Heq.out; simp only [List.length_append, List.length_cons, List.length_nil] at h1; have := HlN.out; omega)
            dsimp only at hy
            clear heq hlo
            gi_wp2
            refine hR.mono ?_
            rintro e w7 ⟨rfl, hJ7, hk7⟩
            have HF : Hid (J NoB (piecesM (a.take (k + 1)) b) w7 ∧ Keep Z W w7) := Lib.hid ⟨by rw [Heq.out]; exact HJ.out.weak _ _ _ _ hJ7 (fun _ h => h.elim), HKi.out.trans (hk7.mono (fun _ _ h => h.1))⟩
            clear hJ7 hk7 hy hR y0 y1 y2
            gi_wp2
            go_roundw
            case rel => exact ⟨k + 1, by omega, by go_num, HF⟩
            case measure => simp [intOf]; try omega
          · have t1 : decide (lo < s3) = false := by simpa using hlo
            have Heq := Lib.hid (heq.symm.trans (show pre ++ pieceM (s1, lo, s3) [] = pre by unfold pieceM; rw [if_neg hlo]; simp))
            have HF : Hid (J NoB (piecesM (a.take (k + 1)) b) wi ∧ Keep Z W wi) := Lib.hid ⟨by rw [Heq.out]; exact HJ.out.weak _ _ _ _ HJi.out (fun _ h => h.elim), HKi.out⟩
            clear heq hlo
            gi_wp2
            refine ⟨fun _ h => (by cases h), ?_⟩
            gi_wp2
            go_roundw
            case rel => exact ⟨k + 1, by omega, by go_num, HF⟩
            case measure => simp [intOf]; try omega
    · obtain rfl : k = na := by omega
      have hkz : ¬ (k : Int) < (k : Int) := by omega
      gi_wp2
      go_end0
      exact ⟨⟨_, rfl⟩, by have := HH.out.1; rwa [List.take_of_length_le (by have := HL.out.1; omega)] at this⟩

end Go.Proofs.YtijdkjcjhfebfaaGreat

namespace Go.Proofs.YtijdkjcjhfebfaaGreat
open Go.RowKit

attribute [local go_sem] Oper.semAt_some

/-- what the closure of kept leaves -/
def KeepRet (W : World) (ob base : Nat) (Ao : Option Addr) (out : List Sp) (W' : World) : Prop :=
  ∃ (A' : Option Addr) (n' c' : Nat), n' = out.length ∧ Blk W' ob 44 #[.slice A' n' c'] ∧ Own W' base 68 3 A' n' c' (spCells out) ∧ Keep (fun q => q = ob ∨ InRow Ao q) W W' ∧ ∀ q, InRow A' q → InRow Ao q ∨ W.heap.size ≤ q
set_option maxHeartbeats 2000000 in
set_option maxRecDepth 100000 in
theorem kept1_any (s : Sp) (has which : Bool) (wb ob base : Nat) (Ao : Option Addr) (no co : Nat) (out : List Sp) (w : World) (hw : w.cell? ⟨wb, 0, none⟩ = some (.bool which)) (hb : Blk w ob 44 #[.slice Ao no co]) (hno : no = out.length) (ho : Own w base 68 3 Ao no co (spCells out)) (hn : no ≤ 100000000000) (hbase : base ≤ w.heap.size) :
    Calls Tryz.prog 113 #[.agg #[.int .i64 s.1, .int .i64 s.2.1, .int .i64 s.2.2], .bool has, .pointer (some ⟨wb, 0, none⟩), .pointer (some ⟨ob, 0, none⟩)] w fun e w' => e = .returned (.tuple #[]) ∧ KeepRet w ob base Ao (out ++ if has == which then [s] else []) w' := by
  obtain ⟨s1, s2, s3⟩ := s
  simp only
  obtain ⟨w1, hw1⟩ : ∃ w1 : World, w.alloc (.cells #[.int .i64 s1, .int .i64 s2, .int .i64 s3] 68) = w1 := ⟨_, rfl⟩
  have hk1 : Keep Never w w1 := by rw [← hw1]; exact (Keep.refl _ _).alloc _
  have hx := Blk.new w 68 #[.int .i64 s1, .int .i64 s2, .int .i64 s3]
  rw [hw1] at hx
  obtain ⟨bx, hbx⟩ : ∃ q, w.heap.size = q := ⟨_, rfl⟩
  have hobx : ob < bx := by rw [← hbx]; exact hb.lt
  rw [hbx] at hx
  have HB := Lib.hid (hb.keep hk1 (fun h => h))
  have HO := Lib.hid (ho.keep hk1 (fun _ _ h => h))
  have HX := Lib.hid hx
  have HK := Lib.hid hk1
  have Hno := Lib.hid hno
  have Hbase := Lib.hid hbase
  have HBx := Lib.hid hbx
  have hwc : w1.cell? ⟨wb, 0, none⟩ = some (.bool which) := (hk1.cell (cell_lt hw) (fun h => h)).trans hw
  have o0 : w1.cell? ⟨ob, 0, none⟩ = some (.slice Ao no co) := HB.out.cell 0
  have f0 : w1.frozen? ⟨ob, 0, none⟩ = false := HB.out.frozen 0
  have x0 : w1.cell? ⟨bx, 0, none⟩ = some (.int .i64 s1) := hx.cell 0
  have x1 : w1.cell? ⟨bx, 1, none⟩ = some (.int .i64 s2) := hx.cell 1
  have x2 : w1.cell? ⟨bx, 2, none⟩ = some (.int .i64 s3) := hx.cell 2
  clear hw hb ho hk1 hx hno hbase
  by_cases hc : has = which
  · subst hc
    have t1 : (has == has) = true := by simp
    rw [if_pos t1]
    have Hnin : Hid (¬ InRow Ao ob) := Lib.hid (fun h => HO.out.ne_blk HB.out (by decide) ob h rfl)
    have hsz : base ≤ (w1.alloc (.cells #[.int .i64 s1, .int .i64 s2, .int .i64 s3] 68)).heap.size := by have := HK.out.size; have := Hbase.out; simp; omega
    go_enter Tryz.func113, Tryz.ntmps113
    go_wp2_with (at_builtin; refine wpList_app _ rfl (.tmp 9) (.tmp 11) _ rfl elemSp base (A := Ao) (n := no) (c := co) (by go_simp) (HO.out.alloc _) _ (A' := some ⟨w1.heap.size, 0, none⟩) (m := 1) (c' := 1) (by go_simp) (Rd.of_blk (n := 1) (cs := [.int .i64 s1, .int .i64 s2, .int .i64 s3]) (Blk.new w1 _ _) rfl) (by simp [Value.oneCell']) (by omega) (by unfold maxLen; omega) hsz ?_; intro A5 c5 w5 hown5 hk5 hrow5; have hb5 := (HB.out.alloc (.cells #[.int .i64 s1, .int .i64 s2, .int .i64 s3] 68)).keep hk5 Hnin.out; have o5 : w5.cell? ⟨ob, 0, none⟩ = some (.slice Ao no co) := hb5.cell 0; have f5 : w5.frozen? ⟨ob, 0, none⟩ = false := hb5.frozen 0; have HB5 := Lib.hid hb5; have HO5 := Lib.hid hown5; have HK5 := Lib.hid hk5; clear hb5 hown5 hk5)
    go_end0
    refine ⟨rfl, A5, no + 1, c5, by simp [Hno.out], HB5.out.set_ 0 _, ?_, ?_, fun q h => ?_⟩
    · rw [spCells_app]
      exact HO5.out.far (p := ⟨ob, 0, none⟩) (HO5.out.ne_blk HB5.out (by decide)) _
    · exact (((HK.out.mono (fun _ _ h => h.elim)).alloc _).then_ HK5.out (fun _ _ h => .inr h)).set_ (p := ⟨ob, 0, none⟩) (.inl (.inl rfl)) _
    · rcases hrow5 q h with h | h
      · exact .inl h
      · right; simp at h; have := HK.out.size; have := HBx.out; omega
  · have t1 : (has == which) = false := by simpa using hc
    rw [if_neg (by rw [t1]; simp)]
    clear hc
    go_enter Tryz.func113, Tryz.ntmps113
    go_wp2
    go_end0
    refine ⟨rfl, Ao, no, co, by simp [Hno.out], HB.out, by rw [List.append_nil]; exact HO.out, HK.out.mono (fun _ _ h => h.elim), fun q h => .inl h⟩

/-- what stands between two rounds of kept: l and D are the loop's own blocks -/
structure KI (w : World) (ob : Nat) (which : Bool) (l : Nat) (lp : Loop) (T : Nat → Prop) (pre : List (Sp × Bool)) (W : World) : Prop where
  keep : Keep (fun q => q = ob ∨ w.heap.size ≤ q) w W
  mine : ∀ q, T q → w.heap.size ≤ q ∧ q ≠ l ∧ q ≠ w.heap.size ∧ q < W.heap.size
  row : ∃ (Ao : Option Addr) (no co : Nat), no = (keptM which pre).length ∧ Blk W ob 44 #[.slice Ao no co] ∧ Own W w.heap.size 68 3 Ao no co (spCells (keptM which pre)) ∧ ∀ q, InRow Ao q → ¬ T q
  loop : W.heap[l]? = some (.loop lp)
  dfr : W.heap[w.heap.size]? = some (.deferred (some []))
theorem own_other {w w' : World} {base e size n c : Nat} {A : Option Addr} {xs : List Value} (h : Own w base e size A n c xs) {S : Nat → Prop} (hk : Keep S w w') (hS : ∀ q o, S q → w.heap[q]? = some o → o.isCells = false) : Own w' base e size A n c xs := by
  refine h.keep hk (fun q hq hs => ?_)
  obtain ⟨ad, rfl, rfl⟩ := hq
  rcases h.form with ⟨h1, _⟩ | ⟨g', cur, h1, hg, hb, _⟩
  · cases h1
  · injection h1 with h1
    subst h1
    have := hS _ _ hs hb
    cases this
/-- a row's block holds cells -/
theorem Own.cells_of {w : World} {base e size n c : Nat} {A : Option Addr} {xs : List Value} (h : Own w base e size A n c xs) {q : Nat} (hq : InRow A q) {o : Obj} (ho : w.heap[q]? = some o) : o.isCells = true := by
  obtain ⟨ad, rfl, rfl⟩ := hq
  rcases h.form with ⟨h1, _⟩ | ⟨g', cur, h1, hg, hb, _⟩
  · cases h1
  · injection h1 with h1
    subst h1
    unfold Blk at hb
    rw [hb] at ho
    injection ho with ho
    subst ho
    rfl
theorem putObj_keep (W : World) (l : Nat) (o : Obj) (_hl : l < W.heap.size) : Keep (fun q => q = l) W (W.putObj l o) := by
  have hg := grownBy_putObj' W l o
  exact ⟨hg.os, hg.tape, hg.output, hg.size, fun k hk hn => hg.block k hk (fun e => hn (by injection e))⟩
namespace KI
variable {w W W' : World} {ob l : Nat} {which : Bool} {lp : Loop} {T T' : Nat → Prop} {pre : List (Sp × Bool)}
theorem lt (h : KI w ob which l lp T pre W) : l < W.heap.size ∧ w.heap.size < W.heap.size := ⟨(Array.getElem?_eq_some_iff.1 h.loop).1, (Array.getElem?_eq_some_iff.1 h.dfr).1⟩
theorem box (h : KI w ob which l lp T pre W) (cs : Array Value) (hT : ∀ q, T' q → T q ∨ q = W.heap.size) : KI w ob which l lp T' pre (W.alloc (.cells cs 68)) := by
  have hlt := h.lt
  refine ⟨h.keep.alloc _, fun q hq => ?_, ?_, (Below.heap_alloc W _ _ hlt.1).trans h.loop, (Below.heap_alloc W _ _ hlt.2).trans h.dfr⟩
  · rcases hT q hq with h' | rfl
    · have := h.mine q h'
      rw [World.size_alloc]
      omega
    · rw [World.size_alloc]
      exact ⟨by omega, by omega, by omega, by omega⟩
  · obtain ⟨Ao, no, co, h1, h2, h3, h4⟩ := h.row
    refine ⟨Ao, no, co, h1, h2.alloc _, h3.alloc _, fun q hq hq' => ?_⟩
    rcases hT q hq' with h' | rfl
    · exact h4 q hq h'
    · have := (h3.row hq).2; omega
theorem weak (h : KI w ob which l lp T pre W) (hT : ∀ q, T' q → T q) : KI w ob which l lp T' pre W := by
  refine ⟨h.keep, fun q hq => h.mine q (hT q hq), ?_, h.loop, h.dfr⟩
  obtain ⟨Ao, no, co, h1, h2, h3, h4⟩ := h.row
  exact ⟨Ao, no, co, h1, h2, h3, fun q hq hq' => h4 q hq (hT q hq')⟩
theorem put (h : KI w ob which l lp T pre W) (hob : ob < w.heap.size) {q : Nat} (hq : T q) (i : Nat) (v : Value) : KI w ob which l lp T pre (W.setCell ⟨q, i, none⟩ v) := by
  have hm := h.mine q hq
  refine ⟨h.keep.set_ (p := ⟨q, i, none⟩) (.inl (.inr hm.1)) v, fun q' h' => by have := h.mine q' h'; simpa [World.setCell] using this, ?_, (KeepsOthers.setCell W _ v).same _ _ h.loop rfl, (KeepsOthers.setCell W _ v).same _ _ h.dfr rfl⟩
  obtain ⟨Ao, no, co, h1, h2, h3, h4⟩ := h.row
  exact ⟨Ao, no, co, h1, h2.far (p := ⟨q, i, none⟩) (by simp only; omega) v, h3.far (p := ⟨q, i, none⟩) (fun k hk e => by simp only at e; subst e; exact h4 _ hk hq) v, h4⟩
/-- the record is turned -/
theorem turn (h : KI w ob which l lp T pre W) (hl : w.heap.size < l) (hob : ob < w.heap.size) (lp' : Loop) : KI w ob which l lp' T pre (W.putObj l (.loop lp')) := by
  have hlt := h.lt
  have hk := putObj_keep W l (.loop lp') hlt.1
  refine ⟨h.keep.trans (hk.mono (fun q _ e => .inr (by omega))), fun q' h' => by have := h.mine q' h'; have := hk.size; omega, ?_, World.putObj_heap_same hlt.1, (World.putObj_heap_other (by omega)).trans h.dfr⟩
  obtain ⟨Ao, no, co, h1, h2, h3, h4⟩ := h.row
  exact ⟨Ao, no, co, h1, h2.keep hk (by omega), own_other h3 hk (fun q o e ho => by subst e; rw [h.loop] at ho; injection ho with ho; subst ho; rfl), h4⟩
end KI

end Go.Proofs.YtijdkjcjhfebfaaGreat

namespace Go.Proofs.YtijdkjcjhfebfaaGreat
open Go.RowKit

attribute [local go_sem] Oper.semAt_some

theorem pieces_any (A1 A2 : Option Addr) (n1 c1 n2 c2 : Nat) (w : World) : Calls Tryz.prog 114 #[.slice A1 n1 c1, .slice A2 n2 c2] w fun e w' => e = .returned (.func (.func 120) #[] #[.pointer (some ⟨w.heap.size, 0, none⟩), .pointer (some ⟨w.heap.size + 1, 0, none⟩)]) ∧ w' = (w.alloc (.cells #[.slice A1 n1 c1] 44)).alloc (.cells #[.slice A2 n2 c2] 44) := by
  go_enter Tryz.func114, Tryz.ntmps114
  go_wp2
  go_ret
  exact ⟨rfl, rfl⟩

/-- the range over pieces: what a round of kept owes, and what comes behind -/
theorem wpIn_range_kept {g : Operand} {ps : Array Tmp} {assign body : Code} {Q : Exit → Act → World → Prop} {a : Act} {w0 : World} (pa pb na ca nb cb B B' ob : Nat) (Aa Ab : Option Addr) (m1 m2 : List Sp) (which : Bool)
    (hg : a.eval g = .func (.func 120) #[] #[.pointer (some ⟨pa, 0, none⟩), .pointer (some ⟨pb, 0, none⟩)]) (hps : ps.size = 2)
    (hpa : w0.cell? ⟨pa, 0, none⟩ = some (.slice Aa na ca)) (hpb : w0.cell? ⟨pb, 0, none⟩ = some (.slice Ab nb cb)) (hne : pa ≠ ob ∧ pb ≠ ob) (h1 : Rd w0 B 3 Aa na (spCells m1)) (h2 : Rd w0 B' 3 Ab nb (spCells m2))
    (hZa : ∀ ad, Aa = some ad → 0 < na → ad.block ≠ ob ∧ ad.block < w0.heap.size) (hZb : ∀ ad, Ab = some ad → 0 < nb → ad.block ≠ ob ∧ ad.block < w0.heap.size) (hna : na ≤ 1000000) (hnb : nb ≤ 1000000)
    (hob : Blk w0 ob 44 #[.slice none 0 0]) (a₁ : Nat → Sp × Bool → Act)
    (hassign : ∀ (l : Nat) (x : Sp × Bool) (W : World) (K : Act → World → Prop), K (a₁ W.heap.size x) (W.alloc (.cells #[.int .i64 x.1.1, .int .i64 x.1.2.1, .int .i64 x.1.2.2] 68)) →
      assign.wpIn (Fence.wide.inRound l) 1 Tryz.prog (Exit.then K (fun _ _ _ => False)) { tmps := (ps.zip #[.agg #[.int .i64 x.1.1, .int .i64 x.1.2.1, .int .i64 x.1.2.2], .bool x.2]).foldl (fun t (p, v) => t.setIfInBounds p v) a.tmps, defers := [] } W)
    (hbody : ∀ (l : Nat) (lp : Loop) (T : Nat → Prop) (pre : List (Sp × Bool)) (x : Sp × Bool) (q : Nat) (W : World), KI w0 ob which l lp T pre W → Blk W q 68 #[.int .i64 x.1.1, .int .i64 x.1.2.1, .int .i64 x.1.2.2] → w0.heap.size < l → pre.length < na * (2 * nb + 1) →
      body.wpIn (Fence.wide.inRound l) 1 Tryz.prog (fun e _ W' => e = .normal ∧ KI w0 ob which l lp T (pre ++ [x]) W' ∧ Keep (fun q => (q = ob ∨ w0.heap.size ≤ q) ∧ ¬ T q) W W') (a₁ q x) W)
    (hdone : ∀ (l : Nat) (lp : Loop) (W : World), KI w0 ob which l lp NoB (piecesM m1 m2) W → Q .normal { a with defers := { target := .collected w0.heap.size, args := #[] } :: a.defers } W) :
    (Code.rangeFunc g ps assign body).wpIn Fence.wide 3 Tryz.prog Q a w0 := by
  refine wpIn_rangeFunc ?_
  intro fn hfn
  rw [show Fence.wide.round = none from rfl]
  obtain ⟨rec, hrec⟩ : ∃ rec : LoopState → Option Code → Loop, rec = fun st pe => { state := st, pending := pe, fn, tmps := a.tmps, params := ps, assign, body, defers := w0.heap.size } := ⟨_, rfl⟩
  obtain ⟨W1, hW1⟩ : ∃ W1, (w0.alloc (.deferred (some []))).alloc (.loop (rec .ready none)) = W1 := ⟨_, rfl⟩
  have hL1 : W1.heap[w0.heap.size + 1]? = some (.loop (rec .ready none)) := by
    rw [← hW1]; have := World.alloc_heap_new (w0.alloc (.deferred (some []))) (.loop (rec .ready none)); rwa [World.size_alloc] at this
  have hD1 : W1.heap[w0.heap.size]? = some (.deferred (some [])) := by
    rw [← hW1]; exact (Below.heap_alloc _ _ _ (by simp)).trans (World.alloc_heap_new w0 _)
  have hk1 : Keep Never w0 W1 := by rw [← hW1]; exact ((Keep.refl Never w0).alloc _).alloc _
  have hK1 : KI w0 ob which (w0.heap.size + 1) (rec .ready none) NoB [] W1 :=
    ⟨hk1.mono (fun _ _ h => h.elim), fun q h => h.elim, ⟨none, 0, 0, rfl, hob.keep hk1 (fun h => h), Own.nil _ _ _ _, fun q h => by obtain ⟨_, h, _⟩ := h; cases h⟩, hL1, hD1⟩
  have hobl := hob.lt
  have hJ : JOk (fun T pre W => KI w0 ob which (w0.heap.size + 1) (rec .ready none) T pre W) := ⟨fun T T' pre W cs h hT => h.box cs hT, fun T T' pre W h hT => h.weak hT, fun T pre W q i v h hq => h.put hobl hq i v⟩
  refine ⟨w0.heap.size + 1, [{ target := .collected w0.heap.size, args := #[] }], W1, { target := .fn (.func 120) #[.pointer (some ⟨pa, 0, none⟩), .pointer (some ⟨pb, 0, none⟩)], args := #[.func (.yield (w0.heap.size + 1)) #[] #[]] }, W1, 120,
    #[.func (.yield (w0.heap.size + 1)) #[] #[]] ++ #[.pointer (some ⟨pa, 0, none⟩), .pointer (some ⟨pb, 0, none⟩)], W1, ?_, ?_, ?_, ?_, fun _ => by omega, ?_⟩
  · rw [← hW1, hrec]; exact run_enterLoop_outer _ _ _ _ _
  · simp only [resolve, hg]
    simp [go_sem]
  · intro f' hf'; trivial
  · have eg : ∀ args w, (callFunc 120 args).run Tryz.prog w = .ok (.enter 120 args) w := enters_of Tryz.func120 (by kernel_rfl) rfl
    simp [invoke, go_sem, eg]
  · refine (pieces1_in Fence.wide 2 trivial rfl (by omega) (w0.heap.size + 1) (na * (2 * nb + 1)) pa pb na ca nb cb B B' Aa Ab m1 m2 (fun q => q = ob ∨ w0.heap.size ≤ q) _ hJ ?_ W1
      ((hk1.cell (cell_lt hpa) (fun h => h)).trans hpa) ((hk1.cell (cell_lt hpb) (fun h => h)).trans hpb) ?_ (h1.keep hk1 (fun _ h => h.elim)) (h2.keep hk1 (fun _ h => h.elim)) ?_ ?_ hna hnb hK1 (fun q hq => .inr (Nat.le_trans hk1.size hq)) (Nat.le_refl _)).mono ?_
    · -- a round
      intro T pre x W hI hT hlen
      have hlt := hI.lt
      have hy := run_yield (P := Tryz.prog) (args := #[.agg #[.int .i64 x.1.1, .int .i64 x.1.2.1, .int .i64 x.1.2.2], .bool x.2]) hI.loop (by rw [hrec]; exact hps.symm)
      rw [hrec] at hy
      refine ⟨fn, _, assign, body, hy, roundIn_of_wpIn hfn (hassign _ x W _ ?_)⟩
      have hI2 := hI.box (T' := T) #[.int .i64 x.1.1, .int .i64 x.1.2.1, .int .i64 x.1.2.2] (fun q h => .inl h)
      have hbx := Blk.new W 68 #[.int .i64 x.1.1, .int .i64 x.1.2.1, .int .i64 x.1.2.2]
      have hka : Keep Never W (W.alloc (.cells #[.int .i64 x.1.1, .int .i64 x.1.2.1, .int .i64 x.1.2.2] 68)) := (Keep.refl Never W).alloc _
      refine ⟨_, run_beginRound hI2.loop (by rw [hrec]), ?_⟩
      have hI3 := hI2.turn (by omega) hobl { rec .ready none with state := .busy }
      have hp3 := putObj_keep (W.alloc (.cells #[.int .i64 x.1.1, .int .i64 x.1.2.1, .int .i64 x.1.2.2] 68)) (w0.heap.size + 1) (.loop { rec .ready none with state := .busy }) hI2.lt.1
      refine wpIn_mono (hbody _ _ T pre x W.heap.size _ hI3 (hbx.keep hp3 (by omega)) (by omega) hlen) ?_
      rintro e a3 W3 ⟨rfl, hI4, hk4⟩
      refine ⟨_, _, run_endRound (P := Tryz.prog) none hI4.loop, rfl, ?_, ?_⟩
      · have := hI4.turn (by omega) hobl { { rec .ready none with state := .busy } with state := .ready, pending := none }
        rw [hrec] at this ⊢
        exact this
      · have hp5 := putObj_keep W3 (w0.heap.size + 1) (.loop { { rec .ready none with state := .busy } with state := if (none : Option Code).isNone then .ready else .done, pending := none }) hI4.lt.1
        have hTl : ¬ T (w0.heap.size + 1) := fun h => (hI.mine _ h).2.1 rfl
        exact (((hka.mono (fun _ _ h => h.elim)).trans (hp3.mono (fun q _ h => by subst h; exact ⟨.inr (by omega), hTl⟩))).trans hk4).trans (hp5.mono (fun q _ h => by subst h; exact ⟨.inr (by omega), hTl⟩))
    · constructor
      · rintro (h | h)
        · exact hne.1 h
        · have := cell_lt hpa; simp only at this; omega
      · rintro (h | h)
        · exact hne.2 h
        · have := cell_lt hpb; simp only at this; omega
    · intro ad hA hp
      obtain ⟨h3, h4⟩ := hZa ad hA hp
      omega
    · intro ad hA hp
      obtain ⟨h3, h4⟩ := hZb ad hA hp
      omega
    · rintro e W2 ⟨⟨v, rfl⟩, hI⟩
      refine ⟨none, _, (by have := run_endLoop (P := Tryz.prog) hI.loop (by rw [hrec]; simp); rw [hrec] at this; exact this), ?_⟩
      exact hdone _ _ _ (hI.turn (by omega) hobl _)

set_option maxHeartbeats 8000000 in
set_option maxRecDepth 100000 in
theorem kept_any (A1 A2 : Option Addr) (n1 c1 n2 c2 B : Nat) (a b : List Sp) (which : Bool) (w : World) (h1 : Rd w B 3 A1 n1 (spCells a)) (hA1 : A1 = none → c1 = 0) (hc1 : n1 ≤ c1) (h2 : Rd w B 3 A2 n2 (spCells b)) (hA2 : A2 = none → c2 = 0) (hc2 : n2 ≤ c2) (hn1 : n1 ≤ 200000) (hn2 : n2 ≤ 200000) (hB : B ≤ w.heap.size) :
    Calls Tryz.prog 98 #[.slice A1 n1 c1, .slice A2 n2 c2, .bool which] w (SpRet w fun m => NormalS m ∧ (∀ e x, hasL m e x = (hasL a e x && (hasL b e x == which))) ∧ m.length ≤ n1 * (2 * n2 + 1)) := by
  obtain ⟨wA, hwA⟩ : ∃ wA : World, ((w.alloc (.cells #[.bool which] 4)).alloc (.cells #[.slice none 0 0] 44)).alloc (.cells #[.func (.func 113) #[] #[.pointer (some ⟨w.heap.size, 0, none⟩), .pointer (some ⟨w.heap.size + 1, 0, none⟩)]] 137) = wA := ⟨_, rfl⟩
  refine (callsIn_wide (n := 3)).1 ?_
  refine callsIn_of_wp_marks Tryz.func98 rfl trivial ?_ rfl
  simp only [Tryz.ntmps98, List.size_toArray, List.length_cons, List.length_nil, Nat.reduceAdd, Nat.reduceSub, Array.replicate_succ, Array.replicate_zero, List.push_toArray, List.append_toArray, List.nil_append, List.cons_append]
  have hkA : Keep Never w wA := by rw [← hwA]; exact (((Keep.refl Never w).alloc _).alloc _).alloc _
  have hWb : Blk wA w.heap.size 4 #[.bool which] := by rw [← hwA]; exact ((Blk.new w _ _).alloc _).alloc _
  have hOb : Blk wA (w.heap.size + 1) 44 #[.slice none 0 0] := by
    have := (Blk.new (w.alloc (.cells #[.bool which] 4)) 44 #[.slice none 0 0]).alloc (.cells #[.func (.func 113) #[] #[.pointer (some ⟨w.heap.size, 0, none⟩), .pointer (some ⟨w.heap.size + 1, 0, none⟩)]] 137)
    rw [World.size_alloc] at this
    rw [← hwA]; exact this
  have hFb : Blk wA (w.heap.size + 1 + 1) 137 #[.func (.func 113) #[] #[.pointer (some ⟨w.heap.size, 0, none⟩), .pointer (some ⟨w.heap.size + 1, 0, none⟩)]] := by
    have := Blk.new ((w.alloc (.cells #[.bool which] 4)).alloc (.cells #[.slice none 0 0] 44)) 137 #[.func (.func 113) #[] #[.pointer (some ⟨w.heap.size, 0, none⟩), .pointer (some ⟨w.heap.size + 1, 0, none⟩)]]
    rw [World.size_alloc, World.size_alloc] at this
    rw [← hwA]; exact this
  have HWA := Lib.hid (And.intro hkA (And.intro hWb (And.intro hOb hFb)))
  have HN1 := Lib.hid (norm_any A1 n1 c1 B a wA (h1.keep hkA (fun _ h => h.elim)) hA1 hc1 (by omega) (Nat.le_trans hB hkA.size))
  have HN2 := Lib.hid (fun W (hk : Keep Never w W) => norm_any A2 n2 c2 B b W (h2.keep hk (fun _ h => h.elim)) hA2 hc2 (by omega) (Nat.le_trans hB hk.size))
  have HLn := Lib.hid (And.intro h1.sp_len h2.sp_len)
  have HBw := Lib.hid hB
  clear h1 h2 hA1 hA2 hc1 hc2 hkA hWb hOb hFb hB
  gi_wp2_with fail
  refine ⟨trivial, (callsIn_wide.2 HN1.out).mono ?_⟩
  rintro e w1 ⟨m1, A3, n3, c3, rfl, hn3, ho3, hk1, hp3, hl3⟩
  have HK1 := Lib.hid (HWA.out.1.trans hk1)
  have HKA1 := Lib.hid hk1
  have HO3 := Lib.hid ho3
  have HP3 := Lib.hid (And.intro hn3 (And.intro hp3 hl3))
  have HN2' := Lib.hid (HN2.out w1 HK1.out)
  clear hn3 ho3 hk1 hp3 hl3 HN1 HN2
  gi_wp2_with fail
  refine ⟨trivial, (callsIn_wide.2 HN2'.out).mono ?_⟩
  rintro e w2 ⟨m2, A4, n4, c4, rfl, hn4, ho4, hk2, hp4, hl4⟩
  have HK2 := Lib.hid (HK1.out.trans hk2)
  have HKA2 := Lib.hid (HKA1.out.trans hk2)
  have HO3' := Lib.hid (HO3.out.keep hk2 (fun _ _ h => h))
  have HO4 := Lib.hid ho4
  have HP4 := Lib.hid (And.intro hn4 (And.intro hp4 hl4))
  clear hn4 ho4 hk2 hp4 hl4 HN2'
  gi_wp2_with fail
  refine ⟨trivial, (callsIn_wide.2 (pieces_any A3 A4 n3 c3 n4 c4 w2)).mono ?_⟩
  rintro e w3 ⟨rfl, rfl⟩
  obtain ⟨w0, hw0⟩ : ∃ w0 : World, (w2.alloc (.cells #[.slice A3 n3 c3] 44)).alloc (.cells #[.slice A4 n4 c4] 44) = w0 := ⟨_, rfl⟩
  have hk0 : Keep Never w2 w0 := by rw [← hw0]; exact ((Keep.refl Never w2).alloc _).alloc _
  have hpa : Blk w0 w2.heap.size 44 #[.slice A3 n3 c3] := by rw [← hw0]; exact (Blk.new w2 _ _).alloc _
  have hpb : Blk w0 (w2.heap.size + 1) 44 #[.slice A4 n4 c4] := by
    have := Blk.new (w2.alloc (.cells #[.slice A3 n3 c3] 44)) 44 #[.slice A4 n4 c4]
    rw [World.size_alloc] at this
    rw [← hw0]; exact this
  rw [hw0]
  have HK0 := Lib.hid (HK2.out.trans hk0)
  have HKA0 := Lib.hid (HKA2.out.trans hk0)
  have HOB := Lib.hid (HWA.out.2.2.1.keep HKA0.out (fun h => h))
  have HWB := Lib.hid (HWA.out.2.1.keep HKA0.out (fun h => h))
  have HFB := Lib.hid (HWA.out.2.2.2.keep HKA0.out (fun h => h))
  have HO3f := Lib.hid (HO3'.out.keep hk0 (fun _ _ h => h))
  have HO4f := Lib.hid (HO4.out.keep hk0 (fun _ _ h => h))
  have hobl := HWA.out.2.2.2.lt
  have hA0 := HKA0.out.size
  have hw2s := HKA2.out.size
  have hlen3 : n3 ≤ n1 := by have h1 := HP3.out; have h2 := HLn.out; omega
  have hlen4 : n4 ≤ n2 := by have h1 := HP4.out; have h2 := HLn.out; omega
  gi_wp2_with fail
  refine wpIn_range_kept (ps := #[17, 18]) w2.heap.size (w2.heap.size + 1) n3 c3 n4 c4 w0.heap.size w0.heap.size (w.heap.size + 1) A3 A4 m1 m2 which ?_ rfl (hpa.cell 0) (hpb.cell 0) ⟨by omega, by omega⟩ HO3f.out.rd HO4f.out.rd
    (fun ad hA _ => ⟨HO3f.out.ne_blk HOB.out (by decide) _ ⟨ad, hA, rfl⟩, (HO3f.out.row ⟨ad, hA, rfl⟩).2⟩) (fun ad hA _ => ⟨HO4f.out.ne_blk HOB.out (by decide) _ ⟨ad, hA, rfl⟩, (HO4f.out.row ⟨ad, hA, rfl⟩).2⟩) (by omega) (by omega) HOB.out
    (fun q x => { tmps := #[Value.slice A1 n1 c1, Value.slice A2 n2 c2, Value.bool which, undef, undef, Value.pointer (some { block := w.heap.size, off := 0 }), Value.slice none 0 0, Value.pointer (some { block := w.heap.size + 1, off := 0 }), Value.pointer (some { block := w.heap.size + 1 + 1, off := 0 }), Value.pointer (some ⟨q, 0, none⟩), Value.bool x.2,
          Value.func (Fn.func 113) #[] #[Value.pointer (some { block := w.heap.size, off := 0 }), Value.pointer (some { block := w.heap.size + 1, off := 0 })], Value.slice A1 n1 c1, Value.slice A3 n3 c3, Value.slice A2 n2 c2, Value.slice A4 n4 c4,
          Value.func (Fn.func 120) #[] #[Value.pointer (some { block := w2.heap.size, off := 0 }), Value.pointer (some { block := w2.heap.size + 1, off := 0 })], Value.agg #[.int .i64 x.1.1, .int .i64 x.1.2.1, .int .i64 x.1.2.2], Value.bool x.2, undef, undef, undef, undef, undef, undef], defers := [] }) ?_ ?_ ?_
  · rfl
  · intro l x W K hK
    obtain ⟨⟨x1, x2, x3⟩, xb⟩ := x
    simp only at hK ⊢
    gi_wp2
    exact hK
  · intro l lp T pre x q W hI hx hl hlen
    obtain ⟨⟨x1, x2, x3⟩, xb⟩ := x
    simp only at hx ⊢
    obtain ⟨Ao, no, co, hno, hB, hO, hT⟩ := hI.row
    have hkw : ∀ p : Nat, p < w0.heap.size → p ≠ w.heap.size + 1 → W.heap[p]? = w0.heap[p]? := fun p hp hne => hI.keep.block p hp (fun h => by rcases h with h | h <;> omega)
    have hwb : W.cell? ⟨w.heap.size, 0, none⟩ = some (.bool which) := (hI.keep.cell (p := ⟨w.heap.size, 0, none⟩) (by simp only; omega) (fun h => by rcases h with h | h <;> (simp only at h; omega))).trans (HWB.out.cell 0)
    have hfb : W.cell? ⟨w.heap.size + 1 + 1, 0, none⟩ = some (.func (.func 113) #[] #[.pointer (some ⟨w.heap.size, 0, none⟩), .pointer (some ⟨w.heap.size + 1, 0, none⟩)]) := (hI.keep.cell (p := ⟨w.heap.size + 1 + 1, 0, none⟩) (by simp only; omega) (fun h => by rcases h with h | h <;> (simp only at h; omega))).trans (HFB.out.cell 0)
    have hnob : no ≤ 100000000000 := by
      have h1 : (keptM which pre).length ≤ pre.length := by unfold keptM; rw [List.length_map]; exact List.length_filter_le _ _
      have h2 : n3 * (2 * n4 + 1) ≤ 200000 * (2 * 200000 + 1) := Nat.mul_le_mul (by omega) (by omega)
      omega
    have hc := kept1_any (x1, x2, x3) xb which w.heap.size (w.heap.size + 1) w0.heap.size Ao no co (keptM which pre) W hwb hB hno hO hnob hI.keep.size
    simp only at hc
    have HC := Lib.hid hc
    have HI := Lib.hid hI
    have HO := Lib.hid hO
    have HT := Lib.hid hT
    have x0 : W.cell? ⟨q, 0, none⟩ = some (.int .i64 x1) := hx.cell 0
    have x1' : W.cell? ⟨q, 1, none⟩ = some (.int .i64 x2) := hx.cell 1
    have x2' : W.cell? ⟨q, 2, none⟩ = some (.int .i64 x3) := hx.cell 2
    have eg : ∀ args w, (callFunc 113 args).run Tryz.prog w = .ok (.enter 113 args) w := enters_of Tryz.func113 (by kernel_rfl) rfl
    clear hc hI hB hO hT hno hx hkw
    gi_wp2_with fail
    refine ⟨trivial, (CallsIn.inRound l (callsIn_wide.2 HC.out)).mono ?_⟩
    rintro e W' ⟨rfl, A', n', c', hn', hB', hO', hk', hr'⟩
    gi_wp2
    have hmine := HI.out.mine
    have hlt := HI.out.lt
    have hS : ∀ q, (q = w.heap.size + 1 ∨ InRow Ao q) → (q = w.heap.size + 1 ∨ w0.heap.size ≤ q) ∧ ¬ T q := fun q h => by
      rcases h with rfl | h
      · exact ⟨.inl rfl, fun h => by have := hmine _ h; omega⟩
      · exact ⟨.inr (HO.out.row h).1, HT.out q h⟩
    have hkp : keptM which (pre ++ [((x1, x2, x3), xb)]) = keptM which pre ++ (if xb == which then [(x1, x2, x3)] else []) := by
      rw [keptM_app]
      congr 1
      unfold keptM
      cases xb <;> cases which <;> rfl
    refine ⟨⟨HI.out.keep.trans (hk'.mono (fun q _ h => (hS q h).1)), fun q h => by have := hmine q h; have := hk'.size; omega, ⟨A', n', c', by rw [hkp]; exact hn', hB', by rw [hkp]; exact hO', fun q hq hT => ?_⟩, ?_, ?_⟩, hk'.mono (fun q _ h => hS q h)⟩
    · rcases hr' q hq with h | h
      · exact HT.out q h hT
      · have := hmine q hT; omega
    · refine (hk'.block l hlt.1 (fun h => ?_)).trans HI.out.loop
      rcases h with h | h
      · omega
      · have := HO.out.cells_of h HI.out.loop; cases this
    · refine (hk'.block _ hlt.2 (fun h => ?_)).trans HI.out.dfr
      rcases h with h | h
      · omega
      · have := HO.out.cells_of h HI.out.dfr; cases this
  · intro l lp W hI
    obtain ⟨Ao, no, co, hno, hB, hO, _⟩ := hI.row
    have hKw : Keep Never w W := HK0.out.then_ hI.keep (fun i hi h => by rcases h with h | h <;> omega)
    have hnob : no ≤ 100000000000 := by
      have h1 : (keptM which (piecesM m1 m2)).length ≤ (piecesM m1 m2).length := by unfold keptM; rw [List.length_map]; exact List.length_filter_le _ _
      have h2 : n3 * (2 * n4 + 1) ≤ 200000 * (2 * 200000 + 1) := Nat.mul_le_mul (by omega) (by omega)
      have h3 := piecesM_len m1 m2
      rw [← HP3.out.1, ← HP4.out.1] at h3
      omega
    have HN := Lib.hid (norm_any Ao no co W.heap.size (keptM which (piecesM m1 m2)) W hO.rd (fun h => by
      rcases hO.form with ⟨_, _, h2, _⟩ | ⟨_, _, h2, _⟩
      · exact h2
      · rw [h] at h2; cases h2) hO.cap_le hnob (Nat.le_refl _))
    have o0 : W.cell? ⟨w.heap.size + 1, 0, none⟩ = some (.slice Ao no co) := hB.cell 0
    have HKw := Lib.hid hKw
    have HDf := Lib.hid hI.dfr
    have Hno := Lib.hid hno
    clear hI hno hB hO hKw
    gi_wp2_with fail
    refine ⟨trivial, (callsIn_wide.2 HN.out).mono ?_⟩
    rintro e w5 ⟨m, A5, n5, c5, rfl, hn5, ho5, hk5, hp5, hl5⟩
    have hdf : w5.heap[w0.heap.size]? = some (.deferred (some [])) := (hk5.block _ (Array.getElem?_eq_some_iff.1 HDf.out).1 (fun h => h)).trans HDf.out
    have HK5 := Lib.hid (HKw.out.trans hk5)
    have HO5 := Lib.hid (Own.less ho5 HKw.out.size)
    have HP5 := Lib.hid (And.intro hn5 (And.intro hp5 hl5))
    have HD5 := Lib.hid hdf
    clear hn5 ho5 hk5 hp5 hl5 hdf
    gi_wp2_with fail
    have hlt5 := (Array.getElem?_eq_some_iff.1 HD5.out).1
    have hpk := putObj_keep w5 w0.heap.size (.deferred none) hlt5
    have hfin : SpRet w (fun m => NormalS m ∧ (∀ e x, hasL m e x = (hasL a e x && (hasL b e x == which))) ∧ m.length ≤ n1 * (2 * n2 + 1)) (.returned (.slice A5 n5 c5)) (w5.putObj w0.heap.size (.deferred none)) := by
      refine ⟨m, A5, n5, c5, rfl, HP5.out.1, own_other HO5.out hpk (fun q o e ho => by subst e; rw [HD5.out] at ho; injection ho with ho; subst ho; rfl), HK5.out.then_ hpk (fun i hi h => by have := HK0.out.size; omega), HP5.out.2.1.1, fun e x => ?_, ?_⟩
      · rw [HP5.out.2.1.2 e x, piecesM_has which HP3.out.2.1.1 HP4.out.2.1.1, HP3.out.2.1.2, HP4.out.2.1.2]
      · have h1 : (keptM which (piecesM m1 m2)).length ≤ (piecesM m1 m2).length := by unfold keptM; rw [List.length_map]; exact List.length_filter_le _ _
        have h3 := piecesM_len m1 m2
        have h5 := HP5.out.2.2
        rw [← HP3.out.1, ← HP4.out.1] at h3
        have h4 : n3 * (2 * n4 + 1) ≤ n1 * (2 * n2 + 1) := Nat.mul_le_mul hlen3 (by omega)
        omega
    refine ⟨by simp, .inl ⟨_, _, rfl, run_takeDeferred HD5.out, ?_⟩⟩
    refine ⟨_, results_tmp rfl _ _ _, ?_⟩
    exact hfin

end Go.Proofs.YtijdkjcjhfebfaaGreat
