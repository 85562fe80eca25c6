/- Chapter 15: the iterator of pieces. -/
import Derived.Test.YtlcbajdckgcopaaSpnH
import Derived.RangeFuncNested
import Derived.RangeFuncBound
import Derived.RangeFuncCalls
import Derived.RangeFuncLeaves
import Derived.OwnWalkIn
import Derived.TacticsInMore
import Derived.LoopNIn
import Derived.LoopIn
namespace Go.Proofs.Ytlcbajdckgcopaa
open Go.RowKit

attribute [local go_sem] Oper.semAt_some

/-- what stands between two rounds: T are the blocks that the iterator keeps for itself -/
structure JOk (J : (Nat → Prop) → List (Sp × Bool) → World → Prop) : Prop where
  box : ∀ T T' pre W cs, J T pre W → (∀ q, T' q → T q ∨ q = W.heap.size) → J T' pre (W.alloc (.cells cs 109))
  weak : ∀ T T' pre W, J T pre W → (∀ q, T' q → T q) → J T' pre W
  put : ∀ T pre W q i v, J T pre W → T q → J T pre (W.setCell ⟨q, i, none⟩ v)
/-- no block -/
def NoB (_ : Nat) : Prop := False
/-- a round of the caller's -/
def RoundOk (F : Fence) (n l N : Nat) (Z : Nat → Prop) (J : (Nat → Prop) → List (Sp × Bool) → World → Prop) : Prop :=
  ∀ (T : Nat → Prop) (pre : List (Sp × Bool)) (x : Sp × Bool) (W : World), J T pre W → (∀ q, T q → q < W.heap.size) → pre.length < N →
    YieldAt F (n - 1) Try.prog l #[.agg #[.int .i64 x.1.1, .int .i64 x.1.2.1, .int .i64 x.1.2.2], .bool x.2] W fun e W' => e = .returned (.bool true) ∧ J T (pre ++ [x]) W' ∧ Keep (fun q => Z q ∧ ¬ T q) W W'

set_option maxHeartbeats 8000000 in
set_option maxRecDepth 100000 in
theorem pieces1_in (F : Fence) (n : Nat) (h75 : F.fn 152) (hro : F.round = none) (hn : 1 ≤ n) (l N pa pb na ca nb cb B B' : Nat) (Aa Ab : Option Addr) (a b : List Sp) (Z : Nat → Prop) (J : (Nat → Prop) → List (Sp × Bool) → World → Prop) (hJ : JOk J)
    (hY : RoundOk F n l N Z J) (W : World) (hpa : W.cell? ⟨pa, 0, none⟩ = some (.slice Aa na ca)) (hpb : W.cell? ⟨pb, 0, none⟩ = some (.slice Ab nb cb)) (hZ : ¬ Z pa ∧ ¬ Z pb) (ha : Rd W B 3 Aa na (spCells a)) (hb : Rd W B' 3 Ab nb (spCells b))
    (hZa : ∀ ad, Aa = some ad → 0 < na → ¬ Z ad.block) (hZb : ∀ ad, Ab = some ad → 0 < nb → ¬ Z ad.block) (hna : na ≤ 1000000) (hnb : nb ≤ 1000000) (h0 : J NoB [] W) (hZn : ∀ q, W.heap.size ≤ q → Z q) (hN : na * (2 * nb + 1) ≤ N) :
    CallsIn F n Try.prog 152 #[.func (.yield l) #[] #[], .pointer (some ⟨pa, 0, none⟩), .pointer (some ⟨pb, 0, none⟩)] W fun e W' => (∃ v, e = .returned v) ∧ J NoB (piecesM a b) W' := by
  have HR := Lib.hid (And.intro ha hb)
  have HZ := Lib.hid (And.intro hZ (And.intro hZa (And.intro hZb hZn)))
  have HL : Hid (a.length = na ∧ b.length = nb) := Lib.hid ⟨ha.sp_len, hb.sp_len⟩
  have HC := Lib.hid (And.intro hpa hpb)
  have HJ := Lib.hid hJ
  have HY := Lib.hid hY
  have H0 := Lib.hid h0
  clear ha hb hZ hZa hZb hZn hJ hY h0
  refine callsIn_of_wp Try.func152 rfl h75 ?_ hro
  simp only [Try.ntmps152, List.size_toArray, List.length_cons, List.length_nil, Nat.reduceAdd, Nat.reduceSub, Array.replicate_succ, Array.replicate_zero, List.push_toArray, List.append_toArray, List.nil_append, List.cons_append]
  gi_wp2
  gi_loopw [10] (fun i wr => ∃ k : Nat, k ≤ na ∧ i = .int .i64 k ∧ Hid (J NoB (piecesM (a.take k) b) wr ∧ Keep Z W wr)) (fun i _ => na - (intOf i).toNat)
  case atStart => exact ⟨0, by omega, rfl, Lib.hid ⟨by simpa [piecesM] using H0.out, Keep.refl _ _⟩⟩
  case round =>
    obtain ⟨k, hk, rfl, HH⟩ := hrel
    by_cases hlt : k < na
    · have hkz : (k : Int) < (na : Int) := by omega
      have hrd := HR.out.1.keep_far HH.out.2 HZ.out.2.1
      obtain ⟨ad, s, hA, _, hs, c0, c1, c2⟩ := hrd.sp hlt
      subst hA
      have hpb' : wr.cell? ⟨pb, 0, none⟩ = some (.slice Ab nb cb) := (HH.out.2.cell (cell_lt HC.out.2) HZ.out.1.2).trans HC.out.2
      obtain ⟨s1, s2, s3⟩ := s
      simp only at c0 c1 c2
      have hpc : piecesM (a.take (k + 1)) b = piecesM (a.take k) b ++ pieceM (s1, s2, s3) b := by
        obtain ⟨h2, h3⟩ := List.getElem?_eq_some_iff.1 hs
        rw [List.take_succ_eq_append_getElem h2, h3]; simp [piecesM]
      have Hpc := Lib.hid hpc
      have HlN : Hid ((piecesM (a.take (k + 1)) b).length ≤ N) := Lib.hid (by
        have h1 := piecesM_len (a.take (k + 1)) b
        have h2 : (a.take (k + 1)).length ≤ na := by rw [List.length_take]; have := HL.out.1; omega
        rw [HL.out.2] at h1
        exact Nat.le_trans h1 (Nat.le_trans (Nat.mul_le_mul_right _ h2) hN))
      obtain ⟨w5, hw5⟩ : ∃ w5 : World, wr.alloc (.cells #[.int .i64 s1, .int .i64 s2, .int .i64 s3] 109) = w5 := ⟨_, rfl⟩
      have hB5 := Blk.new wr 109 #[.int .i64 s1, .int .i64 s2, .int .i64 s3]
      have hk5 : Keep Z W w5 := by rw [← hw5]; exact HH.out.2.alloc _
      have hJ5 : J (fun q => q = wr.heap.size) (piecesM (a.take k) b) w5 := by rw [← hw5]; exact HJ.out.box _ _ _ _ _ HH.out.1 (fun q h => .inr h)
      rw [hw5] at hB5
      have HB5 := Lib.hid hB5
      have HK5 := Lib.hid hk5
      have HJ5 := Lib.hid hJ5
      have Hbs : Hid (W.heap.size ≤ wr.heap.size) := Lib.hid HH.out.2.size
      obtain ⟨bs, hbs⟩ : ∃ q, wr.heap.size = q := ⟨_, rfl⟩
      rw [hbs] at HB5 HJ5 Hbs
      have hpb5 : w5.cell? ⟨pb, 0, none⟩ = some (.slice Ab nb cb) := (HK5.out.cell (cell_lt HC.out.2) HZ.out.1.2).trans HC.out.2
      clear hrd hs hpc hB5 hk5 hJ5 HH
      gi_wp2
      gi_loopw [16] (fun i wi => ∃ (j : Nat) (lo : Int) (pre : List (Sp × Bool)), j ≤ nb ∧ i = .int .i64 j ∧ Hid (J (fun q => q = bs) pre wi ∧ Keep Z W wi ∧ Blk wi bs 109 #[.int .i64 s1, .int .i64 lo, .int .i64 s3] ∧ pre ++ pieceM (s1, lo, s3) (b.drop j) = piecesM (a.take (k + 1)) b)) (fun i _ => nb - (intOf i).toNat)
      case atStart => exact ⟨0, s2, _, by omega, rfl, Lib.hid ⟨HJ5.out, HK5.out, HB5.out, by rw [Hpc.out]; rfl⟩⟩
      case round =>
        obtain ⟨j, lo, pre, hj, rfl, HI⟩ := hrel
        obtain ⟨wi, rfl⟩ : ∃ wi : World, wi = wr := ⟨_, rfl⟩
        by_cases hjb : j < nb
        · have hjz : (j : Int) < (nb : Int) := by omega
          have hrd := HR.out.2.keep_far HI.out.2.1 HZ.out.2.2.1
          obtain ⟨ad2, x, hA2, _, hx, e0, e1, e2⟩ := hrd.sp hjb
          subst hA2
          obtain ⟨x1, x2, x3⟩ := x
          simp only at e0 e1 e2
          have Hdr : Hid (b.drop j = (x1, x2, x3) :: b.drop (j + 1)) := Lib.hid (by
            obtain ⟨h2, h3⟩ := List.getElem?_eq_some_iff.1 hx
            rw [List.drop_eq_getElem_cons h2, h3])
          have Heq := Lib.hid HI.out.2.2.2
          obtain ⟨w6, hw6⟩ : ∃ w6 : World, wi.alloc (.cells #[.int .i64 x1, .int .i64 x2, .int .i64 x3] 109) = w6 := ⟨_, rfl⟩
          have hbl := Blk.new wi 109 #[.int .i64 x1, .int .i64 x2, .int .i64 x3]
          have hbs6 := HI.out.2.2.1.alloc (.cells #[.int .i64 x1, .int .i64 x2, .int .i64 x3] 109)
          have hk6 : Keep Z W (wi.alloc (.cells #[.int .i64 x1, .int .i64 x2, .int .i64 x3] 109)) := HI.out.2.1.alloc _
          have hj6 : J (fun q => q = bs ∨ q = wi.heap.size) pre (wi.alloc (.cells #[.int .i64 x1, .int .i64 x2, .int .i64 x3] 109)) ∧ J (fun q => q = bs) pre (wi.alloc (.cells #[.int .i64 x1, .int .i64 x2, .int .i64 x3] 109)) := ⟨HJ.out.box _ _ _ _ _ HI.out.1 (fun q h => h), HJ.out.box _ _ _ _ _ HI.out.1 (fun q h => .inl h)⟩
          rw [hw6] at hbl hbs6 hk6 hj6
          obtain ⟨bx, hbx⟩ : ∃ q, wi.heap.size = q := ⟨_, rfl⟩
          rw [hbx] at hbl hj6
          have HX6 := Lib.hid hbl
          have HS6 := Lib.hid hbs6
          have HK6 := Lib.hid hk6
          have HJ6 := Lib.hid hj6
          have y0 : w6.cell? ⟨bs, 0, none⟩ = some (.int .i64 s1) := hbs6.cell 0
          have y1 : w6.cell? ⟨bs, 1, none⟩ = some (.int .i64 lo) := hbs6.cell 1
          have y2 : w6.cell? ⟨bs, 2, none⟩ = some (.int .i64 s3) := hbs6.cell 2
          have z0 : w6.cell? ⟨bx, 0, none⟩ = some (.int .i64 x1) := hbl.cell 0
          have z1 : w6.cell? ⟨bx, 1, none⟩ = some (.int .i64 x2) := hbl.cell 1
          have z2 : w6.cell? ⟨bx, 2, none⟩ = some (.int .i64 x3) := hbl.cell 2
          have HT : Hid (∀ q, (q = bs ∨ q = bx) → q < w6.heap.size) := Lib.hid (fun q h => by rcases h with rfl | rfl; exact hbs6.lt; exact hbl.lt)
          clear hrd hx hbl hbs6 hk6 hj6 HI c0 c1 c2
          by_cases hc1 : x1 = s1
          · have t1 : (x1 != s1) = false := by simpa using hc1
            by_cases hc2 : x3 ≤ lo
            · have t2 : decide (x3 ≤ lo) = true := by simpa using hc2
              have hJ8 : J (fun q => q = bs) pre w6 := HJ6.out.2
              have HF : Hid (J (fun q => q = bs) pre w6 ∧ Keep Z W w6 ∧ Blk w6 bs 109 #[.int .i64 s1, .int .i64 lo, .int .i64 s3] ∧ pre ++ pieceM (s1, lo, s3) (b.drop (j + 1)) = piecesM (a.take (k + 1)) b) := by
                refine Lib.hid ⟨hJ8, HK6.out, HS6.out, ?_⟩
                rw [← Heq.out, Hdr.out, pieceM, if_pos (by exact .inr (.inl hc2))]
              clear hJ8 hc1 hc2
              gi_wp2
              go_roundw
              case rel => exact ⟨j + 1, lo, pre, by omega, by go_num, HF⟩
              case measure => simp [intOf]; try omega
            · have t2 : decide (x3 ≤ lo) = false := by simpa using hc2
              by_cases hc3 : x2 ≥ s3
              · have t3 : decide (x2 ≥ s3) = true := by simpa using hc3
                have hJ8 : J (fun q => q = bs) pre w6 := HJ6.out.2
                have HF : Hid (J (fun q => q = bs) pre w6 ∧ Keep Z W w6 ∧ Blk w6 bs 109 #[.int .i64 s1, .int .i64 lo, .int .i64 s3] ∧ pre ++ pieceM (s1, lo, s3) (b.drop (j + 1)) = piecesM (a.take (k + 1)) b) := by
                  refine Lib.hid ⟨hJ8, HK6.out, HS6.out, ?_⟩
                  rw [← Heq.out, Hdr.out, pieceM, if_pos (by exact .inr (.inr hc3))]
                clear hJ8 hc1 hc2 hc3
                gi_wp2
                go_roundw
                case rel => exact ⟨j + 1, lo, pre, by omega, by go_num, HF⟩
                case measure => simp [intOf]; try omega
              · have t3 : decide (x2 ≥ s3) = false := by simpa using hc3
                have Hstep : Hid (pieceM (s1, lo, s3) (b.drop j) = (if lo < x2 then [((s1, lo, x2), false)] else []) ++ ((s1, max lo x2, min s3 x3), true) :: pieceM (s1, min s3 x3, s3) (b.drop (j + 1))) := Lib.hid (by
                  rw [Hdr.out, pieceM, if_neg (by simp only; omega)])
                clear hc1 hc2 hc3
                by_cases hc4 : x2 > lo
                · have t4 : decide (x2 > lo) = true := by simpa using hc4
                  have Hst := Lib.hid (Hstep.out.trans (by rw [if_pos hc4]))
                  clear Hstep hc4
                  obtain ⟨fn, tmps, assign, body, hy, hR⟩ := HY.out _ pre ((s1, lo, x2), false) w6 HJ6.out.1 HT.out (by have h1 := congrArg List.length Heq.out; rw [Hst.out] at h1; simp only [List.length_append, List.length_cons] at h1; have := HlN.out; omega)
                  dsimp only at hy
                  gi_wp2
                  refine hR.mono ?_
                  rintro e w7 ⟨rfl, hJ7, hk7⟩
                  have HS7 := Lib.hid (HS6.out.keep hk7 (fun h => h.2 (.inl rfl)))
                  have HX7 := Lib.hid (HX6.out.keep hk7 (fun h => h.2 (.inr rfl)))
                  have HK7 := Lib.hid (HK6.out.trans (hk7.mono (fun _ _ h => h.1)))
                  have HJ7 := Lib.hid hJ7
                  clear hJ7 hk7 hy hR y0 y1 y2 z0 z1 z2
                  have v0 : w7.cell? ⟨bs, 0, none⟩ = some (.int .i64 s1) := HS7.out.cell 0
                  have v1 : w7.cell? ⟨bs, 1, none⟩ = some (.int .i64 lo) := HS7.out.cell 1
                  have v2 : w7.cell? ⟨bs, 2, none⟩ = some (.int .i64 s3) := HS7.out.cell 2
                  have u0 : w7.cell? ⟨bx, 0, none⟩ = some (.int .i64 x1) := HX7.out.cell 0
                  have u1 : w7.cell? ⟨bx, 1, none⟩ = some (.int .i64 x2) := HX7.out.cell 1
                  have u2 : w7.cell? ⟨bx, 2, none⟩ = some (.int .i64 x3) := HX7.out.cell 2
                  obtain ⟨fn2, tmps2, assign2, body2, hy2, hR2⟩ := HY.out _ (pre ++ [((s1, lo, x2), false)]) ((s1, max lo x2, min s3 x3), true) w7 HJ7.out (fun q h => by rcases h with rfl | rfl; exact HS7.out.lt; exact HX7.out.lt) (by have h1 := congrArg List.length Heq.out; rw [Hst.out] at h1; simp only [List.length_append, List.length_cons, List.length_nil] at h1 ⊢; have := HlN.out; omega)
                  dsimp only at hy2
                  gi_wp2
                  refine hR2.mono ?_
                  rintro e w8 ⟨rfl, hJ8, hk8⟩
                  have hs8 := HS7.out.keep hk8 (fun h => h.2 (.inl rfl))
                  have hx8 := HX7.out.keep hk8 (fun h => h.2 (.inr rfl))
                  have r0 : w8.cell? ⟨bs, 0, none⟩ = some (.int .i64 s1) := hs8.cell 0
                  have r1 : w8.cell? ⟨bs, 1, none⟩ = some (.int .i64 lo) := hs8.cell 1
                  have r2 : w8.cell? ⟨bs, 2, none⟩ = some (.int .i64 s3) := hs8.cell 2
                  have r3 : w8.cell? ⟨bx, 2, none⟩ = some (.int .i64 x3) := hx8.cell 2
                  have r4 : w8.frozen? ⟨bs, 1, none⟩ = false := hs8.frozen 1
                  have HF : Hid (J (fun q => q = bs) ((pre ++ [((s1, lo, x2), false)]) ++ [((s1, max lo x2, min s3 x3), true)]) (w8.setCell ⟨bs, 1, none⟩ (.int .i64 (min s3 x3))) ∧ Keep Z W (w8.setCell ⟨bs, 1, none⟩ (.int .i64 (min s3 x3))) ∧ Blk (w8.setCell ⟨bs, 1, none⟩ (.int .i64 (min s3 x3))) bs 109 #[.int .i64 s1, .int .i64 (min s3 x3), .int .i64 s3] ∧ ((pre ++ [((s1, lo, x2), false)]) ++ [((s1, max lo x2, min s3 x3), true)]) ++ pieceM (s1, min s3 x3, s3) (b.drop (j + 1)) = piecesM (a.take (k + 1)) b) := by
                    refine Lib.hid ⟨HJ.out.weak _ _ _ _ (HJ.out.put _ _ _ bs 1 _ hJ8 (.inl rfl)) (fun q h => .inl h), (HK7.out.trans (hk8.mono (fun _ _ h => h.1))).set_ (p := ⟨bs, 1, none⟩) (.inr Hbs.out) _, hs8.set_ 1 _, ?_⟩
                    rw [← Heq.out, Hst.out]
                    simp
                  clear hJ8 hk8 hs8 hx8
                  gi_wp2
                  go_roundw
                  case rel => exact ⟨j + 1, min s3 x3, _, by omega, by go_num, HF⟩
                  case measure => simp [intOf]; try omega
                · have t4 : decide (x2 > lo) = false := by simpa using hc4
                  have Hst := Lib.hid (Hstep.out.trans (by rw [if_neg hc4]))
                  clear Hstep hc4 y0 y1 y2 z0 z1 z2
                  have v0 : w6.cell? ⟨bs, 0, none⟩ = some (.int .i64 s1) := HS6.out.cell 0
                  have v1 : w6.cell? ⟨bs, 1, none⟩ = some (.int .i64 lo) := HS6.out.cell 1
                  have v2 : w6.cell? ⟨bs, 2, none⟩ = some (.int .i64 s3) := HS6.out.cell 2
                  have u0 : w6.cell? ⟨bx, 0, none⟩ = some (.int .i64 x1) := HX6.out.cell 0
                  have u1 : w6.cell? ⟨bx, 1, none⟩ = some (.int .i64 x2) := HX6.out.cell 1
                  have u2 : w6.cell? ⟨bx, 2, none⟩ = some (.int .i64 x3) := HX6.out.cell 2
                  obtain ⟨fn2, tmps2, assign2, body2, hy2, hR2⟩ := HY.out _ pre ((s1, max lo x2, min s3 x3), true) w6 HJ6.out.1 (fun q h => by rcases h with rfl | rfl; exact HS6.out.lt; exact HX6.out.lt) (by have h1 := congrArg List.length Heq.out; rw [Hst.out] at h1; simp only [List.length_append, List.length_cons, List.length_nil] at h1 ⊢; have := HlN.out; omega)
                  dsimp only at hy2
                  gi_wp2
                  refine ⟨fun _ h => (by cases h), ?_⟩
                  gi_wp2
                  refine hR2.mono ?_
                  rintro e w8 ⟨rfl, hJ8, hk8⟩
                  have hs8 := HS6.out.keep hk8 (fun h => h.2 (.inl rfl))
                  have hx8 := HX6.out.keep hk8 (fun h => h.2 (.inr rfl))
                  have r0 : w8.cell? ⟨bs, 0, none⟩ = some (.int .i64 s1) := hs8.cell 0
                  have r1 : w8.cell? ⟨bs, 1, none⟩ = some (.int .i64 lo) := hs8.cell 1
                  have r2 : w8.cell? ⟨bs, 2, none⟩ = some (.int .i64 s3) := hs8.cell 2
                  have r3 : w8.cell? ⟨bx, 2, none⟩ = some (.int .i64 x3) := hx8.cell 2
                  have r4 : w8.frozen? ⟨bs, 1, none⟩ = false := hs8.frozen 1
                  have HF : Hid (J (fun q => q = bs) (pre ++ [((s1, max lo x2, min s3 x3), true)]) (w8.setCell ⟨bs, 1, none⟩ (.int .i64 (min s3 x3))) ∧ Keep Z W (w8.setCell ⟨bs, 1, none⟩ (.int .i64 (min s3 x3))) ∧ Blk (w8.setCell ⟨bs, 1, none⟩ (.int .i64 (min s3 x3))) bs 109 #[.int .i64 s1, .int .i64 (min s3 x3), .int .i64 s3] ∧ (pre ++ [((s1, max lo x2, min s3 x3), true)]) ++ pieceM (s1, min s3 x3, s3) (b.drop (j + 1)) = piecesM (a.take (k + 1)) b) := by
                    refine Lib.hid ⟨HJ.out.weak _ _ _ _ (HJ.out.put _ _ _ bs 1 _ hJ8 (.inl rfl)) (fun q h => .inl h), (HK6.out.trans (hk8.mono (fun _ _ h => h.1))).set_ (p := ⟨bs, 1, none⟩) (.inr Hbs.out) _, hs8.set_ 1 _, ?_⟩
                    rw [← Heq.out, Hst.out]
                    simp
                  clear hJ8 hk8 hs8 hx8
                  gi_wp2
                  go_roundw
                  case rel => exact ⟨j + 1, min s3 x3, _, by omega, by go_num, HF⟩
                  case measure => simp [intOf]; try omega
          · have t1 : (x1 != s1) = true := by simpa using hc1
            have hJ8 : J (fun q => q = bs) pre w6 := HJ6.out.2
            have HF : Hid (J (fun q => q = bs) pre w6 ∧ Keep Z W w6 ∧ Blk w6 bs 109 #[.int .i64 s1, .int .i64 lo, .int .i64 s3] ∧ pre ++ pieceM (s1, lo, s3) (b.drop (j + 1)) = piecesM (a.take (k + 1)) b) := by
              refine Lib.hid ⟨hJ8, HK6.out, HS6.out, ?_⟩
              rw [← Heq.out, Hdr.out, pieceM, if_pos (by exact .inl hc1)]
            clear hJ8 hc1
            gi_wp2
            go_roundw
            case rel => exact ⟨j + 1, lo, pre, by omega, by go_num, HF⟩
            case measure => simp [intOf]; try omega
        · obtain rfl : j = nb := by omega
          have hjz : ¬ (j : Int) < (j : Int) := by omega
          have hbe : b.drop j = [] := List.drop_eq_nil_of_le (by have := HL.out.2; omega)
          have heq := HI.out.2.2.2
          rw [hbe] at heq
          have HJi := Lib.hid HI.out.1
          have HKi := Lib.hid HI.out.2.1
          have HSi := Lib.hid HI.out.2.2.1
          have y0 : wi.cell? ⟨bs, 0, none⟩ = some (.int .i64 s1) := HSi.out.cell 0
          have y1 : wi.cell? ⟨bs, 1, none⟩ = some (.int .i64 lo) := HSi.out.cell 1
          have y2 : wi.cell? ⟨bs, 2, none⟩ = some (.int .i64 s3) := HSi.out.cell 2
          clear HI c0 c1 c2 hbe
          by_cases hlo : lo < s3
          · have t1 : decide (lo < s3) = true := by simpa using hlo
            have Heq := Lib.hid (heq.symm.trans (show pre ++ pieceM (s1, lo, s3) [] = pre ++ [((s1, lo, s3), false)] by unfold pieceM; rw [if_pos hlo]))
            obtain ⟨fn, tmps, assign, body, hy, hR⟩ := HY.out _ pre ((s1, lo, s3), false) wi HJi.out (fun q h => by subst h; exact HSi.out.lt) (by have h1 := congrArg List.length Heq.out; simp only [List.length_append, List.length_cons, List.length_nil] at h1; have := HlN.out; omega)
            dsimp only at hy
            clear heq hlo
            gi_wp2
            refine hR.mono ?_
            rintro e w7 ⟨rfl, hJ7, hk7⟩
            have HF : Hid (J NoB (piecesM (a.take (k + 1)) b) w7 ∧ Keep Z W w7) := Lib.hid ⟨by rw [Heq.out]; exact HJ.out.weak _ _ _ _ hJ7 (fun _ h => h.elim), HKi.out.trans (hk7.mono (fun _ _ h => h.1))⟩
            clear hJ7 hk7 hy hR y0 y1 y2
            gi_wp2
            go_roundw
            case rel => exact ⟨k + 1, by omega, by go_num, HF⟩
            case measure => simp [intOf]; try omega
          · have t1 : decide (lo < s3) = false := by simpa using hlo
            have Heq := Lib.hid (heq.symm.trans (show pre ++ pieceM (s1, lo, s3) [] = pre by unfold pieceM; rw [if_neg hlo]; simp))
            have HF : Hid (J NoB (piecesM (a.take (k + 1)) b) wi ∧ Keep Z W wi) := Lib.hid ⟨by rw [Heq.out]; exact HJ.out.weak _ _ _ _ HJi.out (fun _ h => h.elim), HKi.out⟩
            clear heq hlo
            gi_wp2
            refine ⟨fun _ h => (by cases h), ?_⟩
            gi_wp2
            go_roundw
            case rel => exact ⟨k + 1, by omega, by go_num, HF⟩
            case measure => simp [intOf]; try omega
    · obtain rfl : k = na := by omega
      have hkz : ¬ (k : Int) < (k : Int) := by omega
      gi_wp2
      go_end0
      exact ⟨⟨_, rfl⟩, by have := HH.out.1; rwa [List.take_of_length_le (by have := HL.out.1; omega)] at this⟩

end Go.Proofs.Ytlcbajdckgcopaa
