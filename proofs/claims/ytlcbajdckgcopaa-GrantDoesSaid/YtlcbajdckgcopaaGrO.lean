/- Chapter 18 (grant): GrantOrder. -/
import Derived.Test.YtlcbajdckgcopaaGrN
namespace Go.Proofs.Ytlcbajdckgcopaa
open Go.RowKit

theorem Blk.l0 {w : World} {g t : Nat} {a b c : Value} (h : Blk w g t #[a, b, c]) : w.cell? ⟨g, 0, none⟩ = some a := h.cell 0
theorem Blk.l1 {w : World} {g t : Nat} {a b c : Value} (h : Blk w g t #[a, b, c]) : w.cell? ⟨g, 1, none⟩ = some b := h.cell 1
theorem Blk.l2 {w : World} {g t : Nat} {a b c : Value} (h : Blk w g t #[a, b, c]) : w.cell? ⟨g, 2, none⟩ = some c := h.cell 2
theorem Bnd.no (k : Nat) : Bnd k noL := ⟨by simp [noL], by simp [noL], by simp [noL]⟩
theorem Bnd.more {k k' : Nat} {l : Ldg} (h : Bnd k l) (hk : k ≤ k') : Bnd k' l := ⟨h.n, fun e he => Nat.le_trans (h.e e he) hk, Nat.le_trans h.h hk⟩
theorem turn_bnd {k k' : Nat} {l : Ldg} {f : Ent → List Sp} (h : Bnd k l) (hf : ∀ e ∈ l.1, (f e).length ≤ k') (hk : k ≤ k') : Bnd k' (turnM f l).1 := by
  unfold turnM
  split
  · exact ⟨Nat.le_trans (leftM_len f l.1) h.n, leftM_bnd hf, Nat.le_trans h.h hk⟩
  · exact Bnd.no _
theorem exp_bnd {k : Nat} {l : Ldg} (h : Bnd k l) (a : Int) : Bnd k (expireM l a).1 := turn_bnd h (fun e he => by
  unfold expF; split
  · simp
  · exact h.e e he) (Nat.le_refl _)
theorem sho_bnd {k : Nat} {l : Ldg} (h : Bnd k l) (t : Int) (x : List Sp) : Bnd (k + x.length) (shortenM l t x).1 := turn_bnd h (fun e he => by
  unfold shoF; split
  · have := h.e e he; omega
  · have := bothM_len e.2.2.1 x; have := h.e e he; omega) (by omega)
theorem Bnd.ld {N k : Nat} {w : World} {x : LA} {l : Ldg} (h : Bnd k l) (hg : LdG N w x l) (hk : k ≤ 100000) : LdB x l :=
  LdB.of hg (by have := h.n; omega) (fun e he => by have := h.e e he; omega) (by have := h.h; omega)
theorem exts_bnd {k : Nat} : ∀ {l : List Ent}, (∀ e ∈ l, e.2.2.1.length ≤ k) → (exts l).length ≤ l.length * k
  | [], _ => by simp [exts]
  | e :: l, h => by
    have := exts_bnd (l := l) (fun x hx => h x (by simp [hx]))
    have h1 := h e (by simp)
    unfold exts at this ⊢
    rw [List.flatMap_cons, List.length_append, List.length_cons, Nat.succ_mul]; omega
theorem Bnd.all {k : Nat} {l : Ldg} (h : Bnd k l) (hk : k ≤ 4000) : (l.2.1 ++ exts l.1).length ≤ 200000 := by
  have h1 := exts_bnd h.e
  have h2 : l.1.length * k ≤ 40 * k := Nat.mul_le_mul_right k h.n
  rw [List.length_append]; have := h.h; omega
theorem exp_two (l : Ldg) (a b : Int) : (expireM (expireM l a).1 b).1 = (expireM l (if b > a then b else a)).1 := by
  by_cases h : mayL l = true
  · rw [order_exp h]
  · have h1 : ∀ c, expireM l c = (noL, 1) := fun c => by unfold expireM turnM; rw [if_neg h]
    rw [h1, h1]; rfl
theorem sho_two (l : Ldg) (t : Int) (x y : List Sp) : (shortenM (shortenM l t x).1 t y).1 = (shortenM l t (bothM x y)).1 := by
  by_cases h : mayL l = true
  · rw [order_sho h]
  · have h1 : ∀ c, shortenM l t c = (noL, 1) := fun c => by unfold shortenM turnM; rw [if_neg h]
    rw [h1, h1]; rfl
theorem exp_err (l : Ldg) (a : Int) : (expireM l a).2 = if mayL l = true then 0 else 1 := by unfold expireM turnM; split <;> rfl
theorem sho_err (l : Ldg) (a : Int) (x : List Sp) : (shortenM l a x).2 = if mayL l = true then 0 else 1 := by unfold shortenM turnM; split <;> rfl

set_option maxHeartbeats 16000000 in
set_option maxRecDepth 100000 in
theorem grantOrder_walk (W : World) (cs0 : Array Value) (l0 : Ldg) (s0 : repLdg.cells W W.heap.size l0 cs0.toList) (a : Int) (_b1 : -9223372036854775808 ≤ a) (_c1 : a ≤ 9223372036854775807) (b : Int) (_b2 : -9223372036854775808 ≤ b) (_c2 : b ≤ 9223372036854775807) (t : Int) (_b3 : -9223372036854775808 ≤ t) (_c3 : t ≤ 9223372036854775807) (X : Option Addr) (xn xc : Nat) (x : List Sp) (s4 : repSp.Sl W W.heap.size X xn xc x) (Y : Option Addr) (yn yc : Nat) (y : List Sp) (s5 : repSp.Sl W W.heap.size Y yn yc y) :
    Calls Try.prog 8 #[.agg cs0, .int .i64 a, .int .i64 b, .int .i64 t, .slice X xn xc, .slice Y yn yc] W fun e W' => e = .returned (.bool true) ∧ Keep Never W W' := by
  obtain ⟨z, hz, hl⟩ := LdAt.of s0
  obtain rfl : cs0 = z.cs := by apply Array.ext'; exact hz
  have hgl : LdG W.heap.size W z l0 := LdG.old hl (Nat.le_refl _)
  clear s0 hz hl
  have HG := Lib.hid hgl
  have HKn := Lib.hid hgl.k
  clear hgl
  obtain ⟨A, n, c, A2, n2, c2, k⟩ := z
  obtain ⟨es, hr, kn⟩ := l0
  simp only [LA.cs] at HG HKn ⊢
  obtain rfl := HKn.out
  clear HKn
  have HX := Lib.hid (SpG.old (N := W.heap.size) (Sl.at s4) (Nat.le_refl _))
  have HY := Lib.hid (SpG.old (N := W.heap.size) (Sl.at s5) (Nat.le_refl _))
  have HXl := Lib.hid (Sl.at s4).len
  have HYl := Lib.hid (Sl.at s5).len
  clear s4 s5
  obtain ⟨w1, hw1⟩ : ∃ V : World, W.alloc (.cells #[.slice A n c, .slice A2 n2 c2, .bool k] 53) = V := ⟨_, rfl⟩
  have kw1 : Keep Never W w1 := by rw [← hw1]; exact (Keep.refl _ _).alloc _
  have bw1 := Blk.new W 53 #[.slice A n c, .slice A2 n2 c2, .bool k]
  rw [hw1] at bw1
  have HB1 := Lib.hid bw1
  have HK := Lib.hid kw1
  clear kw1 bw1
  have HA := Lib.hid (awake18_any w1)
  have HG1 := Lib.hid (HG.out.never HK.out)
  have HOg := Lib.hid (show OpG W.heap.size w1 ⟨0, 0, none, 0, 0, X, xn, xc, Y, yn, yc⟩ (0, 0, [], x, y) from ⟨rfl, rfl, EsG.nil_ _ _, HX.out.never HK.out, HY.out.never HK.out⟩)
  go_enter Try.func8, Try.ntmps8
  go_wp2_with fail
  refine HA.out.mono ?_
  rintro e w2 ⟨rfl, hk2⟩
  have HK2 := Lib.hid (HK.out.trans hk2)
  have HB2 := Lib.hid (HB1.out.keep hk2 (fun h => h))
  have HC := Lib.hid (light_any ⟨A, n, c, A2, n2, c2, k⟩ (es, hr, k) ⟨0, 0, none, 0, 0, X, xn, xc, Y, yn, yc⟩ (0, 0, [], x, y) W.heap.size w2 (HG1.out.never hk2) (HOg.out.never hk2))
  dsimp only [LA.cs, OA.cs] at HC
  clear hk2 HA hw1
  have y0 : w2.cell? ⟨W.heap.size, 0, none⟩ = some (.slice A n c) := HB2.out.cell 0
  have y1 : w2.cell? ⟨W.heap.size, 1, none⟩ = some (.slice A2 n2 c2) := HB2.out.cell 1
  have y2 : w2.cell? ⟨W.heap.size, 2, none⟩ = some (.bool k) := HB2.out.cell 2
  go_wp2_with fail
  refine HC.out.mono ?_
  rintro e w3 ⟨lb, rfl, hlb, hk3⟩
  have HK3 := Lib.hid (HK2.out.trans hk3)
  have HB3 := Lib.hid (HB2.out.keep hk3 (fun h => h))
  have HG3 := Lib.hid (HG.out.never HK3.out)
  clear hk3 HC y0 y1 y2 HB1 HB2 HG1
  cases lb with
  | false =>
    go_wp2_with fail
    go_ret
    exact ⟨rfl, HK3.out⟩
  | true =>
    have hbd := hlb.out rfl
    have HBd := Lib.hid hbd.1
    have HOb := Lib.hid hbd.2
    have HLb := Lib.hid (hbd.1.ld HG3.out (by omega))
    clear hbd hlb
    have hxn : xn ≤ 20 := by have h1 := HOb.out.x; have h2 := HXl.out; simp only at h1; omega
    have hyn : yn ≤ 20 := by have h1 := HOb.out.y; have h2 := HYl.out; simp only at h1; omega
    by_cases g : b > a
    · have t1 : decide (b > a) = true := by simpa using g
      have HMo : Hid ((if b > a then b else a) = b) := Lib.hid (if_pos g)
      clear g
      have HC := Lib.hid (gexp_any _ _ W.heap.size a w3 HG3.out HLb.out HK3.out.size)
      dsimp only [LA.cs] at HC
      have y0 : w3.cell? ⟨W.heap.size, 0, none⟩ = some (.slice A n c) := HB3.out.cell 0
      have y1 : w3.cell? ⟨W.heap.size, 1, none⟩ = some (.slice A2 n2 c2) := HB3.out.cell 1
      have y2 : w3.cell? ⟨W.heap.size, 2, none⟩ = some (.bool k) := HB3.out.cell 2
      go_wp2_with fail
      refine HC.out.mono ?_
      rintro e w4 ⟨⟨Pa1, pn1, pc1, Pb1, pm1, pd1, pk1⟩, rfl, hg4, hk4⟩
      dsimp only [LA.cs]
      obtain ⟨w5, hw5⟩ : ∃ V : World, w4.alloc (.cells #[.slice Pa1 pn1 pc1, .slice Pb1 pm1 pd1, .bool pk1] 53) = V := ⟨_, rfl⟩
      have K5 : Keep Never w4 w5 := by rw [← hw5]; exact (Keep.refl _ _).alloc _
      have B5 := Blk.new w4 53 #[.slice Pa1 pn1 pc1, .slice Pb1 pm1 pd1, .bool pk1]
      rw [hw5] at B5
      obtain ⟨b1, hb1⟩ : ∃ q, w4.heap.size = q := ⟨_, rfl⟩
      rw [hb1] at B5
      have HK5 := Lib.hid (HK3.out.trans (hk4.trans K5))
      have HB5 := Lib.hid (HB3.out.keep (hk4.trans K5) (fun h => h))
      have HN1 : Hid (W.heap.size < b1) := Lib.hid (by rw [← hb1]; exact Nat.lt_of_lt_of_le HB3.out.lt hk4.size)
      have HL1 := Lib.hid B5
      have HG5 := Lib.hid (hg4.never K5)
      have HLb5 := Lib.hid ((exp_bnd HBd.out a).ld HG5.out (by omega))
      have HC := Lib.hid (gexp_any _ _ W.heap.size b w5 HG5.out HLb5.out HK5.out.size)
      dsimp only [LA.cs] at HC
      clear hg4 hk4 K5 B5 y0 y1 y2
      have y0 : w5.cell? ⟨b1, 0, none⟩ = some (.slice Pa1 pn1 pc1) := HL1.out.cell 0
      have y1 : w5.cell? ⟨b1, 1, none⟩ = some (.slice Pb1 pm1 pd1) := HL1.out.cell 1
      have y2 : w5.cell? ⟨b1, 2, none⟩ = some (.bool pk1) := HL1.out.cell 2
      go_wp2_with fail
      refine HC.out.mono ?_
      rintro e w6 ⟨⟨Pa2, pn2, pc2, Pb2, pm2, pd2, pk2⟩, rfl, hg6, hk6⟩
      dsimp only [LA.cs]
      have HK6 := Lib.hid (HK5.out.trans hk6)
      have HB6 := Lib.hid (HB5.out.keep hk6 (fun h => h))
      have HL6 := Lib.hid (HL1.out.keep hk6 (fun h => h))
      have HG6 := Lib.hid hg6
      clear hg6 hk6 HC y0 y1 y2 hw5 hb1
      have y0 : w6.cell? ⟨b1, 0, none⟩ = some (.slice Pa1 pn1 pc1) := HL6.out.cell 0
      have y1 : w6.cell? ⟨b1, 1, none⟩ = some (.slice Pb1 pm1 pd1) := HL6.out.cell 1
      have y2 : w6.cell? ⟨b1, 2, none⟩ = some (.bool pk1) := HL6.out.cell 2
      have yf0 := HL6.out.frozen 0
      have yf1 := HL6.out.frozen 1
      have yf2 := HL6.out.frozen 2
      go_upto_region 10 with (fail)
      obtain ⟨w7, hw7⟩ : ∃ W : World, ((w6.setCell ⟨b1, 0, none⟩ (.slice Pa2 pn2 pc2)).setCell ⟨b1, 1, none⟩ (.slice Pb2 pm2 pd2)).setCell ⟨b1, 2, none⟩ (.bool pk2) = W := ⟨_, rfl⟩
      rw [hw7]
      have k7 : Keep (fun q => q = b1) w6 w7 := by rw [← hw7]; exact putL_keep (Keep.refl (fun q => q = b1) w6) (.inl rfl) _ _ _
      have HL7 : Hid (Blk w7 (b1) 53 #[.slice Pa2 pn2 pc2, .slice Pb2 pm2 pd2, .bool pk2]) := Lib.hid (by rw [← hw7]; exact putL_blk HL6.out _ _ _)
      clear hw7
      have hF7 : Far2 W.heap.size w6 (fun q => q = b1) := Far2.blk HL6.out (by decide) (by decide) (by have := HN1.out; omega)
      have HG7 := Lib.hid (HG6.out.keep k7 hF7)
      have HK7 := Lib.hid (HK6.out.then_ k7 (fun i hi e => by have := HN1.out; omega))
      have HB7 := Lib.hid (HB6.out.keep k7 (by have := HN1.out; omega))
      clear k7 hF7 y0 y1 y2 yf0 yf1 yf2
      have HC := Lib.hid (gexp_any _ _ W.heap.size b w7 (HG.out.never HK7.out) HLb.out HK7.out.size)
      dsimp only [LA.cs] at HC
      have y0 : w7.cell? ⟨W.heap.size, 0, none⟩ = some (.slice A n c) := HB7.out.cell 0
      have y1 : w7.cell? ⟨W.heap.size, 1, none⟩ = some (.slice A2 n2 c2) := HB7.out.cell 1
      have y2 : w7.cell? ⟨W.heap.size, 2, none⟩ = some (.bool k) := HB7.out.cell 2
      go_wp2_with fail
      refine HC.out.mono ?_
      rintro e w8 ⟨⟨Pa3, pn3, pc3, Pb3, pm3, pd3, pk3⟩, rfl, hg8, hk8⟩
      dsimp only [LA.cs]
      obtain ⟨w9, hw9⟩ : ∃ V : World, w8.alloc (.cells #[.slice Pa3 pn3 pc3, .slice Pb3 pm3 pd3, .bool pk3] 53) = V := ⟨_, rfl⟩
      have K9 : Keep Never w8 w9 := by rw [← hw9]; exact (Keep.refl _ _).alloc _
      have B9 := Blk.new w8 53 #[.slice Pa3 pn3 pc3, .slice Pb3 pm3 pd3, .bool pk3]
      rw [hw9] at B9
      obtain ⟨b3, hb3⟩ : ∃ q, w8.heap.size = q := ⟨_, rfl⟩
      rw [hb3] at B9
      have HK9 := Lib.hid (HK7.out.trans (hk8.trans K9))
      have HB9 := Lib.hid (HB7.out.keep (hk8.trans K9) (fun h => h))
      have HL9 := Lib.hid (HL7.out.keep (hk8.trans K9) (fun h => h))
      have HM9 := Lib.hid B9
      have hg9 := hg8.never K9
      have hg9' := HG7.out.never (hk8.trans K9)
      rw [exp_two (es, hr, k), HMo.out] at hg9'
      have hbm := exp_bnd HBd.out b
      have HC := Lib.hid (same_self _ _ _ W.heap.size w9 hg9' hg9 (fun e he => by have := hbm.e e he; omega) (by have := hbm.h; omega))
      dsimp only [LA.cs] at HC
      clear hg8 hk8 K9 B9 hg9 hg9' hbm y0 y1 y2
      have y0 : w9.cell? ⟨b1, 0, none⟩ = some (.slice Pa2 pn2 pc2) := HL9.out.cell 0
      have y1 : w9.cell? ⟨b1, 1, none⟩ = some (.slice Pb2 pm2 pd2) := HL9.out.cell 1
      have y2 : w9.cell? ⟨b1, 2, none⟩ = some (.bool pk2) := HL9.out.cell 2
      have z0 : w9.cell? ⟨b3, 0, none⟩ = some (.slice Pa3 pn3 pc3) := HM9.out.cell 0
      have z1 : w9.cell? ⟨b3, 1, none⟩ = some (.slice Pb3 pm3 pd3) := HM9.out.cell 1
      have z2 : w9.cell? ⟨b3, 2, none⟩ = some (.bool pk3) := HM9.out.cell 2
      go_wp2_with fail
      refine HC.out.mono ?_
      rintro e w10 ⟨rfl, hk10⟩
      have HK10 := Lib.hid (HK9.out.trans hk10)
      have HB10 := Lib.hid (HB9.out.keep hk10 (fun h => h))
      clear hk10 HC y0 y1 y2 z0 z1 z2 hw9 hb3 HL9 HM9 HB9 HL7 HL6 HL1
      have HC := Lib.hid (gsho_any _ _ W.heap.size t x X xn xc w10 (HG.out.never HK10.out) (HX.out.never HK10.out) HLb.out (by omega) HK10.out.size)
      dsimp only [LA.cs] at HC
      have y0 : w10.cell? ⟨W.heap.size, 0, none⟩ = some (.slice A n c) := HB10.out.cell 0
      have y1 : w10.cell? ⟨W.heap.size, 1, none⟩ = some (.slice A2 n2 c2) := HB10.out.cell 1
      have y2 : w10.cell? ⟨W.heap.size, 2, none⟩ = some (.bool k) := HB10.out.cell 2
      go_wp2_with fail
      refine HC.out.mono ?_
      rintro e w11 ⟨⟨Pa4, pn4, pc4, Pb4, pm4, pd4, pk4⟩, rfl, hg11, hk11⟩
      dsimp only [LA.cs]
      obtain ⟨w12, hw12⟩ : ∃ V : World, w11.alloc (.cells #[.slice Pa4 pn4 pc4, .slice Pb4 pm4 pd4, .bool pk4] 53) = V := ⟨_, rfl⟩
      have K12 : Keep Never w11 w12 := by rw [← hw12]; exact (Keep.refl _ _).alloc _
      have B12 := Blk.new w11 53 #[.slice Pa4 pn4 pc4, .slice Pb4 pm4 pd4, .bool pk4]
      rw [hw12] at B12
      obtain ⟨b4, hb4⟩ : ∃ q, w11.heap.size = q := ⟨_, rfl⟩
      rw [hb4] at B12
      have HK12 := Lib.hid (HK10.out.trans (hk11.trans K12))
      have HB12 := Lib.hid (HB10.out.keep (hk11.trans K12) (fun h => h))
      have HN4 : Hid (W.heap.size < b4) := Lib.hid (by rw [← hb4]; exact Nat.lt_of_lt_of_le HB10.out.lt hk11.size)
      have HL12 := Lib.hid B12
      have HG12 := Lib.hid (hg11.never K12)
      have HLb12 := Lib.hid ((sho_bnd HBd.out t x).ld HG12.out (by have := HOb.out.x; simp only at this; omega))
      have HC := Lib.hid (gsho_any _ _ W.heap.size t y Y yn yc w12 HG12.out (HY.out.never HK12.out) HLb12.out (by omega) HK12.out.size)
      dsimp only [LA.cs] at HC
      clear hg11 hk11 K12 B12 y0 y1 y2
      have y0 : w12.cell? ⟨b4, 0, none⟩ = some (.slice Pa4 pn4 pc4) := HL12.out.cell 0
      have y1 : w12.cell? ⟨b4, 1, none⟩ = some (.slice Pb4 pm4 pd4) := HL12.out.cell 1
      have y2 : w12.cell? ⟨b4, 2, none⟩ = some (.bool pk4) := HL12.out.cell 2
      go_wp2_with fail
      refine HC.out.mono ?_
      rintro e w13 ⟨⟨Pa5, pn5, pc5, Pb5, pm5, pd5, pk5⟩, rfl, hg13, hk13⟩
      dsimp only [LA.cs]
      have HK13 := Lib.hid (HK12.out.trans hk13)
      have HB13 := Lib.hid (HB12.out.keep hk13 (fun h => h))
      have HL13 := Lib.hid (HL12.out.keep hk13 (fun h => h))
      have HG13 := Lib.hid hg13
      clear hg13 hk13 HC y0 y1 y2 hw12 hb4
      have y0 : w13.cell? ⟨b4, 0, none⟩ = some (.slice Pa4 pn4 pc4) := HL13.out.cell 0
      have y1 : w13.cell? ⟨b4, 1, none⟩ = some (.slice Pb4 pm4 pd4) := HL13.out.cell 1
      have y2 : w13.cell? ⟨b4, 2, none⟩ = some (.bool pk4) := HL13.out.cell 2
      have yf0 := HL13.out.frozen 0
      have yf1 := HL13.out.frozen 1
      have yf2 := HL13.out.frozen 2
      go_upto_region 14 with (fail)
      obtain ⟨w14, hw14⟩ : ∃ W : World, ((w13.setCell ⟨b4, 0, none⟩ (.slice Pa5 pn5 pc5)).setCell ⟨b4, 1, none⟩ (.slice Pb5 pm5 pd5)).setCell ⟨b4, 2, none⟩ (.bool pk5) = W := ⟨_, rfl⟩
      rw [hw14]
      have k14 : Keep (fun q => q = b4) w13 w14 := by rw [← hw14]; exact putL_keep (Keep.refl (fun q => q = b4) w13) (.inl rfl) _ _ _
      have HL14 : Hid (Blk w14 (b4) 53 #[.slice Pa5 pn5 pc5, .slice Pb5 pm5 pd5, .bool pk5]) := Lib.hid (by rw [← hw14]; exact putL_blk HL13.out _ _ _)
      clear hw14
      have hF14 : Far2 W.heap.size w13 (fun q => q = b4) := Far2.blk HL13.out (by decide) (by decide) (by have := HN4.out; omega)
      have HG14 := Lib.hid (HG13.out.keep k14 hF14)
      have HK14 := Lib.hid (HK13.out.then_ k14 (fun i hi e => by have := HN4.out; omega))
      have HB14 := Lib.hid (HB13.out.keep k14 (by have := HN4.out; omega))
      clear k14 hF14 y0 y1 y2 yf0 yf1 yf2
      have HBo := Lib.hid (fun (V : World) (hk : Keep Never w14 V) => both_any V.heap.size X xn xc Y yn yc x y V (HX.out.never (HK14.out.trans hk)).at_ (HY.out.never (HK14.out.trans hk)).at_ (by omega) (by omega) (Nat.le_refl _))
      have HSh := Lib.hid (fun (V : World) (B : Option Addr) (m d : Nat) (hk : Keep Never w14 V) (hs : SpG W.heap.size V B m d (bothM x y)) => gsho_any ⟨A, n, c, A2, n2, c2, k⟩ (es, hr, k) W.heap.size t (bothM x y) B m d V (HG.out.never (HK14.out.trans hk)) hs HLb.out (by have h1 := hs.at_.len; have h2 := bothM_len x y; have h3 := HXl.out; have h4 := HYl.out; omega) (HK14.out.trans hk).size)
      dsimp only [LA.cs] at HSh
      have y0 : w14.cell? ⟨W.heap.size, 0, none⟩ = some (.slice A n c) := HB14.out.cell 0
      have y1 : w14.cell? ⟨W.heap.size, 1, none⟩ = some (.slice A2 n2 c2) := HB14.out.cell 1
      have y2 : w14.cell? ⟨W.heap.size, 2, none⟩ = some (.bool k) := HB14.out.cell 2
      have y0a : ∀ o, (w14.alloc o).cell? ⟨W.heap.size, 0, none⟩ = some (.slice A n c) := fun o => (HB14.out.alloc o).l0
      have y1a : ∀ o, (w14.alloc o).cell? ⟨W.heap.size, 1, none⟩ = some (.slice A2 n2 c2) := fun o => (HB14.out.alloc o).l1
      have y2a : ∀ o, (w14.alloc o).cell? ⟨W.heap.size, 2, none⟩ = some (.bool k) := fun o => (HB14.out.alloc o).l2
      go_region_law (first
        | (go_simp; go_at_call 38; refine (HBo.out _ (by first | exact (Keep.refl Never w14).drew | exact ((Keep.refl Never w14).alloc _).drew | exact ((Keep.refl Never w14).drew).alloc _)).mono ?_; intro e w15 hr15; obtain ⟨A9, n9, c9, rfl, hs9, hk9⟩ := hr15.g (N := W.heap.size) (l := bothM x y) (fun m h => kept_both h.1); clear hr15; have HS9 := Lib.hid hs9; have HK9' : Hid (Keep Never w14 w15) := Lib.hid (by first | exact hk9.drewL | exact (((Keep.refl Never w14).alloc _).drew).trans hk9 | exact (((Keep.refl Never w14).drew).alloc _).trans hk9); have u0 := keepT HK9'.out y0; have u1 := keepT HK9'.out y1; have u2 := keepT HK9'.out y2; have hb15 := HB14.out.keep HK9'.out (fun h => h); have u0a : ∀ o, (w15.alloc o).cell? ⟨W.heap.size, 0, none⟩ = some (.slice A n c) := fun o => (hb15.alloc o).l0; have u1a : ∀ o, (w15.alloc o).cell? ⟨W.heap.size, 1, none⟩ = some (.slice A2 n2 c2) := fun o => (hb15.alloc o).l1; have u2a : ∀ o, (w15.alloc o).cell? ⟨W.heap.size, 2, none⟩ = some (.bool k) := fun o => (hb15.alloc o).l2; clear hb15; (try have nbA : Hid (Blk w15 w14.heap.size 53 #[.slice none 0 0, .slice none 0 0, .bool false]) := Lib.hid (Blk.keep (Blk.drew (Blk.new w14 53 #[.slice none 0 0, .slice none 0 0, .bool false])) hk9 (fun h => h))); clear hs9 hk9)
        | (go_simp; go_at_call 37; refine (HSh.out _ A9 n9 c9 (by first | exact HK9'.out | exact HK9'.out.alloc _) (by first | exact HS9.out | exact HS9.out.never ((Keep.refl Never w15).alloc _))).mono ?_; rintro e w16 ⟨⟨Pa6, pn6, pc6, Pb6, pm6, pd6, pk6⟩, rfl, hg16, hk16⟩; dsimp only [LA.cs]; have HG16 := Lib.hid hg16; have HK16 : Hid (Keep Never w14 w16) := Lib.hid (by first | exact HK9'.out.trans hk16 | exact (HK9'.out.alloc _).trans hk16); (first | (have nb := Lib.hid (nbA.out.keep hk16 (fun h => h)); have n0 := nb.out.l0; have n1 := nb.out.l1; have n2' := nb.out.l2; have m0 := nb.out.frozen 0; have m1 := nb.out.frozen 1; have m2 := nb.out.frozen 2) | (have nb := Lib.hid (Blk.keep (Blk.new w15 53 #[.slice none 0 0, .slice none 0 0, .bool false]) hk16 (fun h => h)); have n0 := nb.out.l0; have n1 := nb.out.l1; have n2' := nb.out.l2; have m0 := nb.out.frozen 0; have m1 := nb.out.frozen 1; have m2 := nb.out.frozen 2) | skip); clear hg16 hk16))
      all_goals
        (try clear n0 n1 n2' m0 m1 m2)
        first
        | (obtain ⟨w17, h17⟩ : ∃ V : World, ((w16.setCell ⟨w14.heap.size, 0, none⟩ (.slice Pa6 pn6 pc6)).setCell ⟨w14.heap.size, 1, none⟩ (.slice Pb6 pm6 pd6)).setCell ⟨w14.heap.size, 2, none⟩ (.bool pk6) = V := ⟨_, rfl⟩
           rw [h17]
           obtain ⟨b6, hb6⟩ : ∃ p, w14.heap.size = p := ⟨_, rfl⟩
           rw [hb6] at nb h17 ⊢
           have hq6 : w14.heap.size ≤ b6 := by rw [← hb6]; first | exact Nat.le_refl _ | exact HK9'.out.size
           have k17 : Keep (fun p => p = b6) w16 w17 := by rw [← h17]; exact putL_keep (Keep.refl (fun p => p = b6) w16) (.inl rfl) _ _ _
           have HM17 : Hid (Blk w17 b6 53 #[.slice Pa6 pn6 pc6, .slice Pb6 pm6 pd6, .bool pk6]) := Lib.hid (by rw [← h17]; exact putL_blk nb.out _ _ _)
           have HG17 := Lib.hid (HG16.out.keep k17 (Far2.blk nb.out (by decide) (by decide) (Nat.le_trans HK14.out.size hq6)))
           have HK17 : Hid (Keep Never w14 w17) := Lib.hid (HK16.out.then_ k17 (fun i hi e => by omega))
           clear h17 k17 hb6 hq6 nb)
        | (obtain ⟨w17, h17⟩ : ∃ V : World, ((w16.setCell ⟨w15.heap.size, 0, none⟩ (.slice Pa6 pn6 pc6)).setCell ⟨w15.heap.size, 1, none⟩ (.slice Pb6 pm6 pd6)).setCell ⟨w15.heap.size, 2, none⟩ (.bool pk6) = V := ⟨_, rfl⟩
           rw [h17]
           obtain ⟨b6, hb6⟩ : ∃ p, w15.heap.size = p := ⟨_, rfl⟩
           rw [hb6] at nb h17 ⊢
           have hq6 : w14.heap.size ≤ b6 := by rw [← hb6]; first | exact Nat.le_refl _ | exact HK9'.out.size
           have k17 : Keep (fun p => p = b6) w16 w17 := by rw [← h17]; exact putL_keep (Keep.refl (fun p => p = b6) w16) (.inl rfl) _ _ _
           have HM17 : Hid (Blk w17 b6 53 #[.slice Pa6 pn6 pc6, .slice Pb6 pm6 pd6, .bool pk6]) := Lib.hid (by rw [← h17]; exact putL_blk nb.out _ _ _)
           have HG17 := Lib.hid (HG16.out.keep k17 (Far2.blk nb.out (by decide) (by decide) (Nat.le_trans HK14.out.size hq6)))
           have HK17 : Hid (Keep Never w14 w17) := Lib.hid (HK16.out.then_ k17 (fun i hi e => by omega))
           clear h17 k17 hb6 hq6 nb)
        | (obtain ⟨w17, h17⟩ : ∃ V : World, w16.alloc (.cells #[.slice Pa6 pn6 pc6, .slice Pb6 pm6 pd6, .bool pk6] 53) = V := ⟨_, rfl⟩
           rw [h17]
           have k17 : Keep Never w16 w17 := by rw [← h17]; exact (Keep.refl _ _).alloc _
           have hm17 := Blk.new w16 53 #[.slice Pa6 pn6 pc6, .slice Pb6 pm6 pd6, .bool pk6]
           rw [h17] at hm17
           obtain ⟨b6, hb6⟩ : ∃ p, w16.heap.size = p := ⟨_, rfl⟩
           rw [hb6] at hm17 ⊢
           have HM17 := Lib.hid hm17
           have HG17 := Lib.hid (HG16.out.never k17)
           have HK17 : Hid (Keep Never w14 w17) := Lib.hid (HK16.out.trans k17)
           clear h17 k17 hb6 hm17)
      all_goals
        have HK18 := Lib.hid (HK14.out.trans HK17.out)
        have HB17 := Lib.hid (HB14.out.keep HK17.out (fun h => h))
        have HL17 := Lib.hid (HL14.out.keep HK17.out (fun h => h))
        have hg17 := HG14.out.never HK17.out
        rw [sho_two (es, hr, k)] at hg17
        have hbm := sho_bnd HBd.out t (bothM x y)
        have hbl := bothM_len x y
        have hlx := HXl.out
        have hly := HYl.out
        have HC := Lib.hid (same_self _ _ _ W.heap.size w17 hg17 HG17.out (fun e he => by have := hbm.e e he; omega) (by have := hbm.h; omega))
        dsimp only [LA.cs] at HC
        clear hg17 hbm hbl hlx hly y0 y1 y2 y0a y1a y2a u0 u1 u2 u0a u1a u2a HSh HBo
        have y0 : w17.cell? ⟨b4, 0, none⟩ = some (.slice Pa5 pn5 pc5) := HL17.out.cell 0
        have y1 : w17.cell? ⟨b4, 1, none⟩ = some (.slice Pb5 pm5 pd5) := HL17.out.cell 1
        have y2 : w17.cell? ⟨b4, 2, none⟩ = some (.bool pk5) := HL17.out.cell 2
        have z0 : w17.cell? ⟨b6, 0, none⟩ = some (.slice Pa6 pn6 pc6) := HM17.out.cell 0
        have z1 : w17.cell? ⟨b6, 1, none⟩ = some (.slice Pb6 pm6 pd6) := HM17.out.cell 1
        have z2 : w17.cell? ⟨b6, 2, none⟩ = some (.bool pk6) := HM17.out.cell 2
        go_wp2_with fail
        refine HC.out.mono ?_
        rintro e w18 ⟨rfl, hk18⟩
        have HK19 := Lib.hid (HK18.out.trans hk18)
        have HB18 := Lib.hid (HB17.out.keep hk18 (fun h => h))
        clear hk18 HC y0 y1 y2 z0 z1 z2
        have HC := Lib.hid (gMay_any ⟨A, n, c, A2, n2, c2, k⟩ (es, hr, k) _ w18 (HG.out.never HK19.out).ld HLb.out.small (Nat.le_refl _))
        dsimp only [LA.cs] at HC
        have y0 : w18.cell? ⟨W.heap.size, 0, none⟩ = some (.slice A n c) := HB18.out.cell 0
        have y1 : w18.cell? ⟨W.heap.size, 1, none⟩ = some (.slice A2 n2 c2) := HB18.out.cell 1
        have y2 : w18.cell? ⟨W.heap.size, 2, none⟩ = some (.bool k) := HB18.out.cell 2
        go_wp2_with fail
        refine HC.out.mono ?_
        rintro e w19 ⟨rfl, hk19⟩
        have HKz := Lib.hid (HK19.out.trans hk19)
        clear hk19 HC y0 y1 y2
        have e1 := exp_err (es, hr, k) b
        have e2 := exp_err (expireM (es, hr, k) a).1 b
        have e3 := sho_err (es, hr, k) t (bothM x y)
        have e4 := sho_err (shortenM (es, hr, k) t x).1 t y
        cases hm : mayL (es, hr, k) with
        | true =>
          rw [hm] at e1 e3
          rw [(expireM_ok hm a).2] at e2
          rw [(shortenM_ok hm t x).2] at e4
          have q1 : ((expireM (expireM (es, hr, k) a).1 b).2 == (expireM (es, hr, k) b).2) = true := by rw [e1, e2]; rfl
          have q2 : ((shortenM (shortenM (es, hr, k) t x).1 t y).2 == (shortenM (es, hr, k) t (bothM x y)).2) = true := by rw [e3, e4]; rfl
          clear hm e1 e2 e3 e4
          go_wp2_with fail
          go_ret
          exact ⟨rfl, HKz.out⟩
        | false =>
          rw [hm] at e1 e3
          have q1 : ((expireM (es, hr, k) b).2 == 1) = true := by rw [e1]; rfl
          have q2 : ((shortenM (es, hr, k) t (bothM x y)).2 == 1) = true := by rw [e3]; rfl
          clear hm e1 e2 e3 e4
          go_wp2_with fail
          go_ret
          exact ⟨rfl, HKz.out⟩
    · have t1 : decide (b > a) = false := by simpa using g
      have HMo : Hid ((if b > a then b else a) = a) := Lib.hid (if_neg g)
      clear g
      have HC := Lib.hid (gexp_any _ _ W.heap.size a w3 HG3.out HLb.out HK3.out.size)
      dsimp only [LA.cs] at HC
      have y0 : w3.cell? ⟨W.heap.size, 0, none⟩ = some (.slice A n c) := HB3.out.cell 0
      have y1 : w3.cell? ⟨W.heap.size, 1, none⟩ = some (.slice A2 n2 c2) := HB3.out.cell 1
      have y2 : w3.cell? ⟨W.heap.size, 2, none⟩ = some (.bool k) := HB3.out.cell 2
      go_wp2_with fail
      refine HC.out.mono ?_
      rintro e w4 ⟨⟨Pa1, pn1, pc1, Pb1, pm1, pd1, pk1⟩, rfl, hg4, hk4⟩
      dsimp only [LA.cs]
      obtain ⟨w5, hw5⟩ : ∃ V : World, w4.alloc (.cells #[.slice Pa1 pn1 pc1, .slice Pb1 pm1 pd1, .bool pk1] 53) = V := ⟨_, rfl⟩
      have K5 : Keep Never w4 w5 := by rw [← hw5]; exact (Keep.refl _ _).alloc _
      have B5 := Blk.new w4 53 #[.slice Pa1 pn1 pc1, .slice Pb1 pm1 pd1, .bool pk1]
      rw [hw5] at B5
      obtain ⟨b1, hb1⟩ : ∃ q, w4.heap.size = q := ⟨_, rfl⟩
      rw [hb1] at B5
      have HK5 := Lib.hid (HK3.out.trans (hk4.trans K5))
      have HB5 := Lib.hid (HB3.out.keep (hk4.trans K5) (fun h => h))
      have HN1 : Hid (W.heap.size < b1) := Lib.hid (by rw [← hb1]; exact Nat.lt_of_lt_of_le HB3.out.lt hk4.size)
      have HL1 := Lib.hid B5
      have HG5 := Lib.hid (hg4.never K5)
      have HLb5 := Lib.hid ((exp_bnd HBd.out a).ld HG5.out (by omega))
      have HC := Lib.hid (gexp_any _ _ W.heap.size b w5 HG5.out HLb5.out HK5.out.size)
      dsimp only [LA.cs] at HC
      clear hg4 hk4 K5 B5 y0 y1 y2
      have y0 : w5.cell? ⟨b1, 0, none⟩ = some (.slice Pa1 pn1 pc1) := HL1.out.cell 0
      have y1 : w5.cell? ⟨b1, 1, none⟩ = some (.slice Pb1 pm1 pd1) := HL1.out.cell 1
      have y2 : w5.cell? ⟨b1, 2, none⟩ = some (.bool pk1) := HL1.out.cell 2
      go_wp2_with fail
      refine HC.out.mono ?_
      rintro e w6 ⟨⟨Pa2, pn2, pc2, Pb2, pm2, pd2, pk2⟩, rfl, hg6, hk6⟩
      dsimp only [LA.cs]
      have HK6 := Lib.hid (HK5.out.trans hk6)
      have HB6 := Lib.hid (HB5.out.keep hk6 (fun h => h))
      have HL6 := Lib.hid (HL1.out.keep hk6 (fun h => h))
      have HG6 := Lib.hid hg6
      clear hg6 hk6 HC y0 y1 y2 hw5 hb1
      have y0 : w6.cell? ⟨b1, 0, none⟩ = some (.slice Pa1 pn1 pc1) := HL6.out.cell 0
      have y1 : w6.cell? ⟨b1, 1, none⟩ = some (.slice Pb1 pm1 pd1) := HL6.out.cell 1
      have y2 : w6.cell? ⟨b1, 2, none⟩ = some (.bool pk1) := HL6.out.cell 2
      have yf0 := HL6.out.frozen 0
      have yf1 := HL6.out.frozen 1
      have yf2 := HL6.out.frozen 2
      go_upto_region 10 with (fail)
      obtain ⟨w7, hw7⟩ : ∃ W : World, ((w6.setCell ⟨b1, 0, none⟩ (.slice Pa2 pn2 pc2)).setCell ⟨b1, 1, none⟩ (.slice Pb2 pm2 pd2)).setCell ⟨b1, 2, none⟩ (.bool pk2) = W := ⟨_, rfl⟩
      rw [hw7]
      have k7 : Keep (fun q => q = b1) w6 w7 := by rw [← hw7]; exact putL_keep (Keep.refl (fun q => q = b1) w6) (.inl rfl) _ _ _
      have HL7 : Hid (Blk w7 (b1) 53 #[.slice Pa2 pn2 pc2, .slice Pb2 pm2 pd2, .bool pk2]) := Lib.hid (by rw [← hw7]; exact putL_blk HL6.out _ _ _)
      clear hw7
      have hF7 : Far2 W.heap.size w6 (fun q => q = b1) := Far2.blk HL6.out (by decide) (by decide) (by have := HN1.out; omega)
      have HG7 := Lib.hid (HG6.out.keep k7 hF7)
      have HK7 := Lib.hid (HK6.out.then_ k7 (fun i hi e => by have := HN1.out; omega))
      have HB7 := Lib.hid (HB6.out.keep k7 (by have := HN1.out; omega))
      clear k7 hF7 y0 y1 y2 yf0 yf1 yf2
      have HC := Lib.hid (gexp_any _ _ W.heap.size a w7 (HG.out.never HK7.out) HLb.out HK7.out.size)
      dsimp only [LA.cs] at HC
      have y0 : w7.cell? ⟨W.heap.size, 0, none⟩ = some (.slice A n c) := HB7.out.cell 0
      have y1 : w7.cell? ⟨W.heap.size, 1, none⟩ = some (.slice A2 n2 c2) := HB7.out.cell 1
      have y2 : w7.cell? ⟨W.heap.size, 2, none⟩ = some (.bool k) := HB7.out.cell 2
      go_wp2_with fail
      refine HC.out.mono ?_
      rintro e w8 ⟨⟨Pa3, pn3, pc3, Pb3, pm3, pd3, pk3⟩, rfl, hg8, hk8⟩
      dsimp only [LA.cs]
      obtain ⟨w9, hw9⟩ : ∃ V : World, w8.alloc (.cells #[.slice Pa3 pn3 pc3, .slice Pb3 pm3 pd3, .bool pk3] 53) = V := ⟨_, rfl⟩
      have K9 : Keep Never w8 w9 := by rw [← hw9]; exact (Keep.refl _ _).alloc _
      have B9 := Blk.new w8 53 #[.slice Pa3 pn3 pc3, .slice Pb3 pm3 pd3, .bool pk3]
      rw [hw9] at B9
      obtain ⟨b3, hb3⟩ : ∃ q, w8.heap.size = q := ⟨_, rfl⟩
      rw [hb3] at B9
      have HK9 := Lib.hid (HK7.out.trans (hk8.trans K9))
      have HB9 := Lib.hid (HB7.out.keep (hk8.trans K9) (fun h => h))
      have HL9 := Lib.hid (HL7.out.keep (hk8.trans K9) (fun h => h))
      have HM9 := Lib.hid B9
      have hg9 := hg8.never K9
      have hg9' := HG7.out.never (hk8.trans K9)
      rw [exp_two (es, hr, k), HMo.out] at hg9'
      have hbm := exp_bnd HBd.out a
      have HC := Lib.hid (same_self _ _ _ W.heap.size w9 hg9' hg9 (fun e he => by have := hbm.e e he; omega) (by have := hbm.h; omega))
      dsimp only [LA.cs] at HC
      clear hg8 hk8 K9 B9 hg9 hg9' hbm y0 y1 y2
      have y0 : w9.cell? ⟨b1, 0, none⟩ = some (.slice Pa2 pn2 pc2) := HL9.out.cell 0
      have y1 : w9.cell? ⟨b1, 1, none⟩ = some (.slice Pb2 pm2 pd2) := HL9.out.cell 1
      have y2 : w9.cell? ⟨b1, 2, none⟩ = some (.bool pk2) := HL9.out.cell 2
      have z0 : w9.cell? ⟨b3, 0, none⟩ = some (.slice Pa3 pn3 pc3) := HM9.out.cell 0
      have z1 : w9.cell? ⟨b3, 1, none⟩ = some (.slice Pb3 pm3 pd3) := HM9.out.cell 1
      have z2 : w9.cell? ⟨b3, 2, none⟩ = some (.bool pk3) := HM9.out.cell 2
      go_wp2_with fail
      refine HC.out.mono ?_
      rintro e w10 ⟨rfl, hk10⟩
      have HK10 := Lib.hid (HK9.out.trans hk10)
      have HB10 := Lib.hid (HB9.out.keep hk10 (fun h => h))
      clear hk10 HC y0 y1 y2 z0 z1 z2 hw9 hb3 HL9 HM9 HB9 HL7 HL6 HL1
      have HC := Lib.hid (gsho_any _ _ W.heap.size t x X xn xc w10 (HG.out.never HK10.out) (HX.out.never HK10.out) HLb.out (by omega) HK10.out.size)
      dsimp only [LA.cs] at HC
      have y0 : w10.cell? ⟨W.heap.size, 0, none⟩ = some (.slice A n c) := HB10.out.cell 0
      have y1 : w10.cell? ⟨W.heap.size, 1, none⟩ = some (.slice A2 n2 c2) := HB10.out.cell 1
      have y2 : w10.cell? ⟨W.heap.size, 2, none⟩ = some (.bool k) := HB10.out.cell 2
      go_wp2_with fail
      refine HC.out.mono ?_
      rintro e w11 ⟨⟨Pa4, pn4, pc4, Pb4, pm4, pd4, pk4⟩, rfl, hg11, hk11⟩
      dsimp only [LA.cs]
      obtain ⟨w12, hw12⟩ : ∃ V : World, w11.alloc (.cells #[.slice Pa4 pn4 pc4, .slice Pb4 pm4 pd4, .bool pk4] 53) = V := ⟨_, rfl⟩
      have K12 : Keep Never w11 w12 := by rw [← hw12]; exact (Keep.refl _ _).alloc _
      have B12 := Blk.new w11 53 #[.slice Pa4 pn4 pc4, .slice Pb4 pm4 pd4, .bool pk4]
      rw [hw12] at B12
      obtain ⟨b4, hb4⟩ : ∃ q, w11.heap.size = q := ⟨_, rfl⟩
      rw [hb4] at B12
      have HK12 := Lib.hid (HK10.out.trans (hk11.trans K12))
      have HB12 := Lib.hid (HB10.out.keep (hk11.trans K12) (fun h => h))
      have HN4 : Hid (W.heap.size < b4) := Lib.hid (by rw [← hb4]; exact Nat.lt_of_lt_of_le HB10.out.lt hk11.size)
      have HL12 := Lib.hid B12
      have HG12 := Lib.hid (hg11.never K12)
      have HLb12 := Lib.hid ((sho_bnd HBd.out t x).ld HG12.out (by have := HOb.out.x; simp only at this; omega))
      have HC := Lib.hid (gsho_any _ _ W.heap.size t y Y yn yc w12 HG12.out (HY.out.never HK12.out) HLb12.out (by omega) HK12.out.size)
      dsimp only [LA.cs] at HC
      clear hg11 hk11 K12 B12 y0 y1 y2
      have y0 : w12.cell? ⟨b4, 0, none⟩ = some (.slice Pa4 pn4 pc4) := HL12.out.cell 0
      have y1 : w12.cell? ⟨b4, 1, none⟩ = some (.slice Pb4 pm4 pd4) := HL12.out.cell 1
      have y2 : w12.cell? ⟨b4, 2, none⟩ = some (.bool pk4) := HL12.out.cell 2
      go_wp2_with fail
      refine HC.out.mono ?_
      rintro e w13 ⟨⟨Pa5, pn5, pc5, Pb5, pm5, pd5, pk5⟩, rfl, hg13, hk13⟩
      dsimp only [LA.cs]
      have HK13 := Lib.hid (HK12.out.trans hk13)
      have HB13 := Lib.hid (HB12.out.keep hk13 (fun h => h))
      have HL13 := Lib.hid (HL12.out.keep hk13 (fun h => h))
      have HG13 := Lib.hid hg13
      clear hg13 hk13 HC y0 y1 y2 hw12 hb4
      have y0 : w13.cell? ⟨b4, 0, none⟩ = some (.slice Pa4 pn4 pc4) := HL13.out.cell 0
      have y1 : w13.cell? ⟨b4, 1, none⟩ = some (.slice Pb4 pm4 pd4) := HL13.out.cell 1
      have y2 : w13.cell? ⟨b4, 2, none⟩ = some (.bool pk4) := HL13.out.cell 2
      have yf0 := HL13.out.frozen 0
      have yf1 := HL13.out.frozen 1
      have yf2 := HL13.out.frozen 2
      go_upto_region 14 with (fail)
      obtain ⟨w14, hw14⟩ : ∃ W : World, ((w13.setCell ⟨b4, 0, none⟩ (.slice Pa5 pn5 pc5)).setCell ⟨b4, 1, none⟩ (.slice Pb5 pm5 pd5)).setCell ⟨b4, 2, none⟩ (.bool pk5) = W := ⟨_, rfl⟩
      rw [hw14]
      have k14 : Keep (fun q => q = b4) w13 w14 := by rw [← hw14]; exact putL_keep (Keep.refl (fun q => q = b4) w13) (.inl rfl) _ _ _
      have HL14 : Hid (Blk w14 (b4) 53 #[.slice Pa5 pn5 pc5, .slice Pb5 pm5 pd5, .bool pk5]) := Lib.hid (by rw [← hw14]; exact putL_blk HL13.out _ _ _)
      clear hw14
      have hF14 : Far2 W.heap.size w13 (fun q => q = b4) := Far2.blk HL13.out (by decide) (by decide) (by have := HN4.out; omega)
      have HG14 := Lib.hid (HG13.out.keep k14 hF14)
      have HK14 := Lib.hid (HK13.out.then_ k14 (fun i hi e => by have := HN4.out; omega))
      have HB14 := Lib.hid (HB13.out.keep k14 (by have := HN4.out; omega))
      clear k14 hF14 y0 y1 y2 yf0 yf1 yf2
      have HBo := Lib.hid (fun (V : World) (hk : Keep Never w14 V) => both_any V.heap.size X xn xc Y yn yc x y V (HX.out.never (HK14.out.trans hk)).at_ (HY.out.never (HK14.out.trans hk)).at_ (by omega) (by omega) (Nat.le_refl _))
      have HSh := Lib.hid (fun (V : World) (B : Option Addr) (m d : Nat) (hk : Keep Never w14 V) (hs : SpG W.heap.size V B m d (bothM x y)) => gsho_any ⟨A, n, c, A2, n2, c2, k⟩ (es, hr, k) W.heap.size t (bothM x y) B m d V (HG.out.never (HK14.out.trans hk)) hs HLb.out (by have h1 := hs.at_.len; have h2 := bothM_len x y; have h3 := HXl.out; have h4 := HYl.out; omega) (HK14.out.trans hk).size)
      dsimp only [LA.cs] at HSh
      have y0 : w14.cell? ⟨W.heap.size, 0, none⟩ = some (.slice A n c) := HB14.out.cell 0
      have y1 : w14.cell? ⟨W.heap.size, 1, none⟩ = some (.slice A2 n2 c2) := HB14.out.cell 1
      have y2 : w14.cell? ⟨W.heap.size, 2, none⟩ = some (.bool k) := HB14.out.cell 2
      have y0a : ∀ o, (w14.alloc o).cell? ⟨W.heap.size, 0, none⟩ = some (.slice A n c) := fun o => (HB14.out.alloc o).l0
      have y1a : ∀ o, (w14.alloc o).cell? ⟨W.heap.size, 1, none⟩ = some (.slice A2 n2 c2) := fun o => (HB14.out.alloc o).l1
      have y2a : ∀ o, (w14.alloc o).cell? ⟨W.heap.size, 2, none⟩ = some (.bool k) := fun o => (HB14.out.alloc o).l2
      go_region_law (first
        | (go_simp; go_at_call 38; refine (HBo.out _ (by first | exact (Keep.refl Never w14).drew | exact ((Keep.refl Never w14).alloc _).drew | exact ((Keep.refl Never w14).drew).alloc _)).mono ?_; intro e w15 hr15; obtain ⟨A9, n9, c9, rfl, hs9, hk9⟩ := hr15.g (N := W.heap.size) (l := bothM x y) (fun m h => kept_both h.1); clear hr15; have HS9 := Lib.hid hs9; have HK9' : Hid (Keep Never w14 w15) := Lib.hid (by first | exact hk9.drewL | exact (((Keep.refl Never w14).alloc _).drew).trans hk9 | exact (((Keep.refl Never w14).drew).alloc _).trans hk9); have u0 := keepT HK9'.out y0; have u1 := keepT HK9'.out y1; have u2 := keepT HK9'.out y2; have hb15 := HB14.out.keep HK9'.out (fun h => h); have u0a : ∀ o, (w15.alloc o).cell? ⟨W.heap.size, 0, none⟩ = some (.slice A n c) := fun o => (hb15.alloc o).l0; have u1a : ∀ o, (w15.alloc o).cell? ⟨W.heap.size, 1, none⟩ = some (.slice A2 n2 c2) := fun o => (hb15.alloc o).l1; have u2a : ∀ o, (w15.alloc o).cell? ⟨W.heap.size, 2, none⟩ = some (.bool k) := fun o => (hb15.alloc o).l2; clear hb15; (try have nbA : Hid (Blk w15 w14.heap.size 53 #[.slice none 0 0, .slice none 0 0, .bool false]) := Lib.hid (Blk.keep (Blk.drew (Blk.new w14 53 #[.slice none 0 0, .slice none 0 0, .bool false])) hk9 (fun h => h))); clear hs9 hk9)
        | (go_simp; go_at_call 37; refine (HSh.out _ A9 n9 c9 (by first | exact HK9'.out | exact HK9'.out.alloc _) (by first | exact HS9.out | exact HS9.out.never ((Keep.refl Never w15).alloc _))).mono ?_; rintro e w16 ⟨⟨Pa6, pn6, pc6, Pb6, pm6, pd6, pk6⟩, rfl, hg16, hk16⟩; dsimp only [LA.cs]; have HG16 := Lib.hid hg16; have HK16 : Hid (Keep Never w14 w16) := Lib.hid (by first | exact HK9'.out.trans hk16 | exact (HK9'.out.alloc _).trans hk16); (first | (have nb := Lib.hid (nbA.out.keep hk16 (fun h => h)); have n0 := nb.out.l0; have n1 := nb.out.l1; have n2' := nb.out.l2; have m0 := nb.out.frozen 0; have m1 := nb.out.frozen 1; have m2 := nb.out.frozen 2) | (have nb := Lib.hid (Blk.keep (Blk.new w15 53 #[.slice none 0 0, .slice none 0 0, .bool false]) hk16 (fun h => h)); have n0 := nb.out.l0; have n1 := nb.out.l1; have n2' := nb.out.l2; have m0 := nb.out.frozen 0; have m1 := nb.out.frozen 1; have m2 := nb.out.frozen 2) | skip); clear hg16 hk16))
      all_goals
        (try clear n0 n1 n2' m0 m1 m2)
        first
        | (obtain ⟨w17, h17⟩ : ∃ V : World, ((w16.setCell ⟨w14.heap.size, 0, none⟩ (.slice Pa6 pn6 pc6)).setCell ⟨w14.heap.size, 1, none⟩ (.slice Pb6 pm6 pd6)).setCell ⟨w14.heap.size, 2, none⟩ (.bool pk6) = V := ⟨_, rfl⟩
           rw [h17]
           obtain ⟨b6, hb6⟩ : ∃ p, w14.heap.size = p := ⟨_, rfl⟩
           rw [hb6] at nb h17 ⊢
           have hq6 : w14.heap.size ≤ b6 := by rw [← hb6]; first | exact Nat.le_refl _ | exact HK9'.out.size
           have k17 : Keep (fun p => p = b6) w16 w17 := by rw [← h17]; exact putL_keep (Keep.refl (fun p => p = b6) w16) (.inl rfl) _ _ _
           have HM17 : Hid (Blk w17 b6 53 #[.slice Pa6 pn6 pc6, .slice Pb6 pm6 pd6, .bool pk6]) := Lib.hid (by rw [← h17]; exact putL_blk nb.out _ _ _)
           have HG17 := Lib.hid (HG16.out.keep k17 (Far2.blk nb.out (by decide) (by decide) (Nat.le_trans HK14.out.size hq6)))
           have HK17 : Hid (Keep Never w14 w17) := Lib.hid (HK16.out.then_ k17 (fun i hi e => by omega))
           clear h17 k17 hb6 hq6 nb)
        | (obtain ⟨w17, h17⟩ : ∃ V : World, ((w16.setCell ⟨w15.heap.size, 0, none⟩ (.slice Pa6 pn6 pc6)).setCell ⟨w15.heap.size, 1, none⟩ (.slice Pb6 pm6 pd6)).setCell ⟨w15.heap.size, 2, none⟩ (.bool pk6) = V := ⟨_, rfl⟩
           rw [h17]
           obtain ⟨b6, hb6⟩ : ∃ p, w15.heap.size = p := ⟨_, rfl⟩
           rw [hb6] at nb h17 ⊢
           have hq6 : w14.heap.size ≤ b6 := by rw [← hb6]; first | exact Nat.le_refl _ | exact HK9'.out.size
           have k17 : Keep (fun p => p = b6) w16 w17 := by rw [← h17]; exact putL_keep (Keep.refl (fun p => p = b6) w16) (.inl rfl) _ _ _
           have HM17 : Hid (Blk w17 b6 53 #[.slice Pa6 pn6 pc6, .slice Pb6 pm6 pd6, .bool pk6]) := Lib.hid (by rw [← h17]; exact putL_blk nb.out _ _ _)
           have HG17 := Lib.hid (HG16.out.keep k17 (Far2.blk nb.out (by decide) (by decide) (Nat.le_trans HK14.out.size hq6)))
           have HK17 : Hid (Keep Never w14 w17) := Lib.hid (HK16.out.then_ k17 (fun i hi e => by omega))
           clear h17 k17 hb6 hq6 nb)
        | (obtain ⟨w17, h17⟩ : ∃ V : World, w16.alloc (.cells #[.slice Pa6 pn6 pc6, .slice Pb6 pm6 pd6, .bool pk6] 53) = V := ⟨_, rfl⟩
           rw [h17]
           have k17 : Keep Never w16 w17 := by rw [← h17]; exact (Keep.refl _ _).alloc _
           have hm17 := Blk.new w16 53 #[.slice Pa6 pn6 pc6, .slice Pb6 pm6 pd6, .bool pk6]
           rw [h17] at hm17
           obtain ⟨b6, hb6⟩ : ∃ p, w16.heap.size = p := ⟨_, rfl⟩
           rw [hb6] at hm17 ⊢
           have HM17 := Lib.hid hm17
           have HG17 := Lib.hid (HG16.out.never k17)
           have HK17 : Hid (Keep Never w14 w17) := Lib.hid (HK16.out.trans k17)
           clear h17 k17 hb6 hm17)
      all_goals
        have HK18 := Lib.hid (HK14.out.trans HK17.out)
        have HB17 := Lib.hid (HB14.out.keep HK17.out (fun h => h))
        have HL17 := Lib.hid (HL14.out.keep HK17.out (fun h => h))
        have hg17 := HG14.out.never HK17.out
        rw [sho_two (es, hr, k)] at hg17
        have hbm := sho_bnd HBd.out t (bothM x y)
        have hbl := bothM_len x y
        have hlx := HXl.out
        have hly := HYl.out
        have HC := Lib.hid (same_self _ _ _ W.heap.size w17 hg17 HG17.out (fun e he => by have := hbm.e e he; omega) (by have := hbm.h; omega))
        dsimp only [LA.cs] at HC
        clear hg17 hbm hbl hlx hly y0 y1 y2 y0a y1a y2a u0 u1 u2 u0a u1a u2a HSh HBo
        have y0 : w17.cell? ⟨b4, 0, none⟩ = some (.slice Pa5 pn5 pc5) := HL17.out.cell 0
        have y1 : w17.cell? ⟨b4, 1, none⟩ = some (.slice Pb5 pm5 pd5) := HL17.out.cell 1
        have y2 : w17.cell? ⟨b4, 2, none⟩ = some (.bool pk5) := HL17.out.cell 2
        have z0 : w17.cell? ⟨b6, 0, none⟩ = some (.slice Pa6 pn6 pc6) := HM17.out.cell 0
        have z1 : w17.cell? ⟨b6, 1, none⟩ = some (.slice Pb6 pm6 pd6) := HM17.out.cell 1
        have z2 : w17.cell? ⟨b6, 2, none⟩ = some (.bool pk6) := HM17.out.cell 2
        go_wp2_with fail
        refine HC.out.mono ?_
        rintro e w18 ⟨rfl, hk18⟩
        have HK19 := Lib.hid (HK18.out.trans hk18)
        have HB18 := Lib.hid (HB17.out.keep hk18 (fun h => h))
        clear hk18 HC y0 y1 y2 z0 z1 z2
        have HC := Lib.hid (gMay_any ⟨A, n, c, A2, n2, c2, k⟩ (es, hr, k) _ w18 (HG.out.never HK19.out).ld HLb.out.small (Nat.le_refl _))
        dsimp only [LA.cs] at HC
        have y0 : w18.cell? ⟨W.heap.size, 0, none⟩ = some (.slice A n c) := HB18.out.cell 0
        have y1 : w18.cell? ⟨W.heap.size, 1, none⟩ = some (.slice A2 n2 c2) := HB18.out.cell 1
        have y2 : w18.cell? ⟨W.heap.size, 2, none⟩ = some (.bool k) := HB18.out.cell 2
        go_wp2_with fail
        refine HC.out.mono ?_
        rintro e w19 ⟨rfl, hk19⟩
        have HKz := Lib.hid (HK19.out.trans hk19)
        clear hk19 HC y0 y1 y2
        have e1 := exp_err (es, hr, k) a
        have e2 := exp_err (expireM (es, hr, k) a).1 b
        have e3 := sho_err (es, hr, k) t (bothM x y)
        have e4 := sho_err (shortenM (es, hr, k) t x).1 t y
        cases hm : mayL (es, hr, k) with
        | true =>
          rw [hm] at e1 e3
          rw [(expireM_ok hm a).2] at e2
          rw [(shortenM_ok hm t x).2] at e4
          have q1 : ((expireM (expireM (es, hr, k) a).1 b).2 == (expireM (es, hr, k) a).2) = true := by rw [e1, e2]; rfl
          have q2 : ((shortenM (shortenM (es, hr, k) t x).1 t y).2 == (shortenM (es, hr, k) t (bothM x y)).2) = true := by rw [e3, e4]; rfl
          clear hm e1 e2 e3 e4
          go_wp2_with fail
          go_ret
          exact ⟨rfl, HKz.out⟩
        | false =>
          rw [hm] at e1 e3
          have q1 : ((expireM (es, hr, k) a).2 == 1) = true := by rw [e1]; rfl
          have q2 : ((shortenM (es, hr, k) t (bothM x y)).2 == 1) = true := by rw [e3]; rfl
          clear hm e1 e2 e3 e4
          go_wp2_with fail
          go_ret
          exact ⟨rfl, HKz.out⟩
end Go.Proofs.Ytlcbajdckgcopaa
