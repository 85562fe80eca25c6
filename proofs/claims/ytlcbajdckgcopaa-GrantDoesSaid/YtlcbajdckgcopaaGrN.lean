/- Chapter 18 (grant): awake. -/
import Derived.Test.YtlcbajdckgcopaaGrM
namespace Go.Proofs.Ytlcbajdckgcopaa
open Go.RowKit

theorem SpG.lit {N g : Nat} {w : World} {a b c : Int} (h : Blk w g 109 #[.int .i64 a, .int .i64 b, .int .i64 c]) : SpG N w (some ⟨g, 0, none⟩) 1 1 [(a, b, c)] := by
  refine ⟨⟨?_, (fun h => by cases h), Nat.le_refl _⟩, fun ad hA _ => ?_⟩
  · exact (Rd.of_blk (size := 3) (n := 1) (cs := [.int .i64 a, .int .i64 b, .int .i64 c]) h rfl).at_heap (by decide)
  · injection hA with hA; subst hA; exact .inr ⟨_, h⟩
theorem EsG.lit {N g : Nat} {w : World} {t u : Int} {b : Bool} {A : Option Addr} {n c : Nat} {x : List Sp} (h : Blk w g 77 #[.int .i64 t, .int .i64 u, .slice A n c, .bool b]) (hx : SpG N w A n c x) : EsG N w (some ⟨g, 0, none⟩) 1 1 [(t, u, x, b)] := by
  refine ⟨⟨[[.int .i64 t, .int .i64 u, .slice A n c, .bool b]], ?_, ⟨A, n, c, rfl, hx.at_, hx.g⟩, trivial⟩, rfl, Nat.le_refl _, by unfold maxLen; omega, (fun h => by cases h), fun ad hA _ => ?_⟩
  · exact (Rd.of_blk (size := 4) (n := 1) (cs := [.int .i64 t, .int .i64 u, .slice A n c, .bool b]) h rfl).at_heap (by decide)
  · injection hA with hA; subst hA; exact .inr ⟨_, h⟩
def awL1 : Ldg := ([(5, 20, [(0, 0, 10)], false)], [], false)
def awL2 : Ldg := ([(5, 20, [(0, 0, 4)], false)], [], false)
theorem aw_add : addM noL [(5, 20, [(0, 0, 10)], false)] = (awL1, 0) := by kernel_rfl
theorem aw_sho : shortenM awL1 6 [(0, 0, 4)] = (awL2, 0) := by kernel_rfl
theorem aw_ex1 : expireM awL2 19 = (awL2, 0) := by kernel_rfl
theorem aw_ex2 : expireM awL2 20 = (noL, 0) := by kernel_rfl
theorem aw_held : heldM awL2 = [(0, 0, 4)] := by kernel_rfl
theorem aw_held0 : heldM noL = [] := by kernel_rfl
theorem aw_may : mayL awL2 = true := by kernel_rfl
theorem aw_free : freeM awL2 [] = false := by kernel_rfl
theorem LdB.of {N : Nat} {w : World} {x : LA} {l : Ldg} (h : LdG N w x l) (h1 : l.1.length ≤ 100000) (h2 : ∀ e ∈ l.1, e.2.2.1.length ≤ 200000) (h3 : l.2.1.length ≤ 200000) : LdB x l := ⟨by rw [h.e.len]; exact h1, h2, by rw [← h.h.at_.len]; exact h3⟩

set_option maxHeartbeats 16000000 in
set_option maxRecDepth 100000 in
theorem awake18_any (w : World) :
    Calls Try.prog 26 #[] w (TrueRet w) := by
  obtain ⟨w1, hw1⟩ : ∃ W : World, w.alloc (.cells #[.int .i64 0, .int .i64 0, .int .i64 10] 109) = W := ⟨_, rfl⟩
  have zw1 : w1.heap.size = w.heap.size + 1 := by rw [← hw1]; simp
  have kw1 : Keep Never w w1 := by rw [← hw1]; exact (Keep.refl _ _).alloc _
  have bw1 := Blk.new w 109 #[.int .i64 0, .int .i64 0, .int .i64 10]
  rw [hw1] at bw1
  obtain ⟨w2, hw2⟩ : ∃ W : World, w1.alloc (.cells #[.int .i64 5, .int .i64 20, .slice (some ⟨w.heap.size, 0, none⟩) 1 1, .bool false] 77) = W := ⟨_, rfl⟩
  have kw2 : Keep Never w1 w2 := by rw [← hw2]; exact (Keep.refl _ _).alloc _
  have bw2 := Blk.new w1 77 #[.int .i64 5, .int .i64 20, .slice (some ⟨w.heap.size, 0, none⟩) 1 1, .bool false]
  rw [hw2, zw1] at bw2
  have HB1 := Lib.hid (bw1.keep kw2 (fun h => h))
  have HB2 := Lib.hid bw2
  have HK := Lib.hid (kw1.trans kw2)
  clear kw1 kw2 bw1 bw2
  have HC := Lib.hid (gadd_any ⟨none, 0, 0, none, 0, 0, false⟩ noL w.heap.size [(5, 20, [(0, 0, 10)], false)] (some ⟨w.heap.size + 1, 0, none⟩) 1 1 w2 (LdG.no _ _) (EsG.lit HB2.out (SpG.lit HB1.out)) ⟨by show 0 ≤ 100000; omega, by simp [noL], by show 0 ≤ 200000; omega⟩ (by omega) (by simp) HK.out.size)
  rw [aw_add] at HC
  go_enter Try.func26, Try.ntmps26
  go_wp2_with fail
  refine HC.out.mono ?_
  rintro e w3 ⟨⟨A1, n1, c1, B1, m1, d1, k1⟩, rfl, hg3, hk3⟩
  dsimp only [LA.cs]
  obtain ⟨w4, hw4⟩ : ∃ W : World, w3.alloc (.cells #[.slice A1 n1 c1, .slice B1 m1 d1, .bool k1] 53) = W := ⟨_, rfl⟩
  have K4 : Keep Never w3 w4 := by rw [← hw4]; exact (Keep.refl _ _).alloc _
  have B4 := Blk.new w3 53 #[.slice A1 n1 c1, .slice B1 m1 d1, .bool k1]
  rw [hw4] at B4
  obtain ⟨b1, hb1⟩ : ∃ q, w3.heap.size = q := ⟨_, rfl⟩
  rw [hb1] at B4
  obtain ⟨w5, hw5⟩ : ∃ W : World, w4.alloc (.cells #[.int .i64 0, .int .i64 0, .int .i64 4] 109) = W := ⟨_, rfl⟩
  have K5 : Keep Never w4 w5 := by rw [← hw5]; exact (Keep.refl _ _).alloc _
  have B5 := Blk.new w4 109 #[.int .i64 0, .int .i64 0, .int .i64 4]
  rw [hw5] at B5
  obtain ⟨b2, hb2⟩ : ∃ q, w4.heap.size = q := ⟨_, rfl⟩
  rw [hb2] at B5
  have HK5 := Lib.hid (HK.out.trans (hk3.trans (K4.trans K5)))
  have hN1 : Hid (w.heap.size ≤ b1) := Lib.hid (by rw [← hb1]; exact (HK.out.trans hk3).size)
  have b4 := B4.keep K5 (fun h => h)
  have HB4 := Lib.hid b4
  have hg5 := hg3.never (K4.trans K5)
  have HC := Lib.hid (gsho_any _ _ w.heap.size 6 [(0, 0, 4)] (some ⟨b2, 0, none⟩) 1 1 w5 hg5 (SpG.lit B5) (LdB.of hg5 (by decide) (by decide) (by decide)) (by omega) HK5.out.size)
  rw [aw_sho] at HC
  dsimp only [LA.cs] at HC
  have q0 : w4.cell? ⟨b1, 0, none⟩ = some (.slice A1 n1 c1) := B4.cell 0
  have q1 : w4.cell? ⟨b1, 1, none⟩ = some (.slice B1 m1 d1) := B4.cell 1
  have q2 : w4.cell? ⟨b1, 2, none⟩ = some (.bool k1) := B4.cell 2
  clear hg3 hk3 K4 B4 K5 B5 b4 hg5 hw1 hw2 zw1
  go_wp2_with fail
  refine HC.out.mono ?_
  rintro e w6 ⟨⟨A2, n2, c2, B2, m2, d2, k2⟩, rfl, hg6, hk6⟩
  dsimp only [LA.cs]
  have HK6 := Lib.hid (HK5.out.trans hk6)
  have HB6 := Lib.hid (HB4.out.keep hk6 (fun h => h))
  have HG6 := Lib.hid hg6
  clear hg6 hk6 HC q0 q1 q2 hw4 hw5 hb2 hb1
  have z0 : w6.cell? ⟨b1, 0, none⟩ = some (.slice A1 n1 c1) := HB6.out.cell 0
  have z1 : w6.cell? ⟨b1, 1, none⟩ = some (.slice B1 m1 d1) := HB6.out.cell 1
  have z2 : w6.cell? ⟨b1, 2, none⟩ = some (.bool k1) := HB6.out.cell 2
  have zf0 := HB6.out.frozen 0
  have zf1 := HB6.out.frozen 1
  have zf2 := HB6.out.frozen 2
  go_upto_region 3 with (fail)
  obtain ⟨w7, hw7⟩ : ∃ W : World, ((w6.setCell ⟨b1, 0, none⟩ (.slice A2 n2 c2)).setCell ⟨b1, 1, none⟩ (.slice B2 m2 d2)).setCell ⟨b1, 2, none⟩ (.bool k2) = W := ⟨_, rfl⟩
  rw [hw7]
  have k7 : Keep (fun q => q = b1) w6 w7 := by rw [← hw7]; exact putL_keep (Keep.refl (fun q => q = b1) w6) (.inl rfl) _ _ _
  have HB7 : Hid (Blk w7 (b1) 53 #[.slice A2 n2 c2, .slice B2 m2 d2, .bool k2]) := Lib.hid (by rw [← hw7]; exact putL_blk HB6.out _ _ _)
  clear hw7
  have HG7 := Lib.hid (HG6.out.keep k7 (Far2.blk HB6.out (by decide) (by decide) hN1.out))
  have HK7 := Lib.hid (HK6.out.then_ k7 (fun i hi e => by have := hN1.out; omega))
  clear k7 z0 z1 z2 zf0 zf1 zf2
  have HLb : Hid (LdB ⟨A2, n2, c2, B2, m2, d2, k2⟩ awL2) := Lib.hid (LdB.of HG7.out (by decide) (by decide) (by decide))
  have z0 : w7.cell? ⟨b1, 0, none⟩ = some (.slice A2 n2 c2) := HB7.out.cell 0
  have z1 : w7.cell? ⟨b1, 1, none⟩ = some (.slice B2 m2 d2) := HB7.out.cell 1
  have z2 : w7.cell? ⟨b1, 2, none⟩ = some (.bool k2) := HB7.out.cell 2
  have HC := Lib.hid (gexp_any _ _ w.heap.size 19 w7 HG7.out HLb.out HK7.out.size)
  rw [aw_ex1] at HC
  dsimp only [LA.cs] at HC
  go_wp2_with fail
  refine HC.out.mono ?_
  rintro e w8 ⟨⟨A3, n3, c3, B3, m3, d3, k3⟩, rfl, hg8, hk8⟩
  dsimp only [LA.cs]
  obtain ⟨w9, hw9⟩ : ∃ W : World, w8.alloc (.cells #[.slice A3 n3 c3, .slice B3 m3 d3, .bool k3] 53) = W := ⟨_, rfl⟩
  have K9 : Keep Never w8 w9 := by rw [← hw9]; exact (Keep.refl _ _).alloc _
  have B9 := Blk.new w8 53 #[.slice A3 n3 c3, .slice B3 m3 d3, .bool k3]
  rw [hw9] at B9
  obtain ⟨b3, hb3⟩ : ∃ q, w8.heap.size = q := ⟨_, rfl⟩
  rw [hb3] at B9
  have HK9 := Lib.hid (HK7.out.trans (hk8.trans K9))
  have HB9 := Lib.hid B9
  have HB9l := Lib.hid (HB7.out.keep (hk8.trans K9) (fun h => h))
  have HG9 := Lib.hid (hg8.never K9)
  have HG9l := Lib.hid (HG7.out.never (hk8.trans K9))
  clear hg8 hk8 K9 B9 HC z0 z1 z2
  have z0 : w9.cell? ⟨b1, 0, none⟩ = some (.slice A2 n2 c2) := HB9l.out.cell 0
  have z1 : w9.cell? ⟨b1, 1, none⟩ = some (.slice B2 m2 d2) := HB9l.out.cell 1
  have z2 : w9.cell? ⟨b1, 2, none⟩ = some (.bool k2) := HB9l.out.cell 2
  have HC := Lib.hid (gexp_any _ _ w.heap.size 20 w9 HG9l.out HLb.out HK9.out.size)
  rw [aw_ex2] at HC
  dsimp only [LA.cs] at HC
  go_wp2_with fail
  refine HC.out.mono ?_
  rintro e w10 ⟨⟨A4, n4, c4, B4, m4, d4, k4⟩, rfl, hg10, hk10⟩
  dsimp only [LA.cs]
  obtain ⟨w11, hw11⟩ : ∃ W : World, w10.alloc (.cells #[.slice A4 n4 c4, .slice B4 m4 d4, .bool k4] 53) = W := ⟨_, rfl⟩
  have K11 : Keep Never w10 w11 := by rw [← hw11]; exact (Keep.refl _ _).alloc _
  have B11 := Blk.new w10 53 #[.slice A4 n4 c4, .slice B4 m4 d4, .bool k4]
  rw [hw11] at B11
  obtain ⟨b4, hb4⟩ : ∃ q, w10.heap.size = q := ⟨_, rfl⟩
  rw [hb4] at B11
  have HK11 := Lib.hid (HK9.out.trans (hk10.trans K11))
  have HB11 := Lib.hid B11
  have HB11l := Lib.hid (HB9l.out.keep (hk10.trans K11) (fun h => h))
  have HB11m := Lib.hid (HB9.out.keep (hk10.trans K11) (fun h => h))
  have HG11 := Lib.hid (hg10.never K11)
  have HG11l := Lib.hid (HG9l.out.never (hk10.trans K11))
  have HG11m := Lib.hid (HG9.out.never (hk10.trans K11))
  clear hg10 hk10 K11 B11 HC z0 z1 z2 hw9 hb3
  have z0 : w11.cell? ⟨b3, 0, none⟩ = some (.slice A3 n3 c3) := HB11m.out.cell 0
  have z1 : w11.cell? ⟨b3, 1, none⟩ = some (.slice B3 m3 d3) := HB11m.out.cell 1
  have z2 : w11.cell? ⟨b3, 2, none⟩ = some (.bool k3) := HB11m.out.cell 2
  have HLb3 : Hid (LdB ⟨A3, n3, c3, B3, m3, d3, k3⟩ awL2) := Lib.hid (LdB.of HG11m.out (by decide) (by decide) (by decide))
  have HC := Lib.hid (gheld_any _ _ w.heap.size w11 HG11m.out HLb3.out.small (by decide) HK11.out.size)
  rw [aw_held] at HC
  dsimp only [LA.cs] at HC
  go_wp2_with fail
  refine HC.out.mono ?_
  rintro e w12 ⟨A5, n5, c5, rfl, hs12, hk12⟩
  obtain ⟨w13, hw13⟩ : ∃ W : World, w12.alloc (.cells #[.int .i64 0, .int .i64 0, .int .i64 4] 109) = W := ⟨_, rfl⟩
  have K13 : Keep Never w12 w13 := by rw [← hw13]; exact (Keep.refl _ _).alloc _
  have B13 := Blk.new w12 109 #[.int .i64 0, .int .i64 0, .int .i64 4]
  rw [hw13] at B13
  obtain ⟨b5, hb5⟩ : ∃ q, w12.heap.size = q := ⟨_, rfl⟩
  rw [hb5] at B13
  have HK13 := Lib.hid (HK11.out.trans (hk12.trans K13))
  have HB13l := Lib.hid (HB11l.out.keep (hk12.trans K13) (fun h => h))
  have HB13n := Lib.hid (HB11.out.keep (hk12.trans K13) (fun h => h))
  have HG13l := Lib.hid (HG11l.out.never (hk12.trans K13))
  have HG13n := Lib.hid (HG11.out.never (hk12.trans K13))
  have hs13 := hs12.never K13
  have hn5 : n5 ≤ 1000 := by have := hs13.at_.len; simp at this; omega
  have HC := Lib.hid (same15_self [(0, 0, 4)] A5 (some ⟨b5, 0, none⟩) n5 1 c5 1 _ _ w13 hs13.at_.rd (SpG.lit (N := 0) B13).at_.rd (by omega) (by omega))
  clear hs12 hk12 K13 B13 hs13 hn5 z0 z1 z2 hw11 hb4
  go_wp2_with fail
  refine HC.out.mono ?_
  rintro e w14 ⟨rfl, hk14⟩
  have HK14 := Lib.hid (HK13.out.trans hk14)
  have HB14l := Lib.hid (HB13l.out.keep hk14 (fun h => h))
  have HB14n := Lib.hid (HB13n.out.keep hk14 (fun h => h))
  have HG14l := Lib.hid (HG13l.out.never hk14)
  have HG14n := Lib.hid (HG13n.out.never hk14)
  clear hk14 HC hw13 hb5
  have z0 : w14.cell? ⟨b4, 0, none⟩ = some (.slice A4 n4 c4) := HB14n.out.cell 0
  have z1 : w14.cell? ⟨b4, 1, none⟩ = some (.slice B4 m4 d4) := HB14n.out.cell 1
  have z2 : w14.cell? ⟨b4, 2, none⟩ = some (.bool k4) := HB14n.out.cell 2
  have HLb4 : Hid (LdB ⟨A4, n4, c4, B4, m4, d4, k4⟩ noL) := Lib.hid (LdB.of HG14n.out (by decide) (by decide) (by decide))
  have HC := Lib.hid (gheld_any _ _ w.heap.size w14 HG14n.out HLb4.out.small (by decide) HK14.out.size)
  rw [aw_held0] at HC
  dsimp only [LA.cs] at HC
  go_wp2_with fail
  refine HC.out.mono ?_
  rintro e w15 ⟨A6, n6, c6, rfl, hs15, hk15⟩
  obtain rfl : 0 = n6 := hs15.at_.len
  have HK15 := Lib.hid (HK14.out.trans hk15)
  have HB15 := Lib.hid (HB14l.out.keep hk15 (fun h => h))
  have HG15 := Lib.hid (HG14l.out.never hk15)
  clear hk15 hs15 HC z0 z1 z2
  have z0 : w15.cell? ⟨b1, 0, none⟩ = some (.slice A2 n2 c2) := HB15.out.cell 0
  have z1 : w15.cell? ⟨b1, 1, none⟩ = some (.slice B2 m2 d2) := HB15.out.cell 1
  have z2 : w15.cell? ⟨b1, 2, none⟩ = some (.bool k2) := HB15.out.cell 2
  have HC := Lib.hid (gMay_any _ _ _ w15 HG15.out.ld HLb.out.small (Nat.le_refl _))
  rw [aw_may] at HC
  dsimp only [LA.cs] at HC
  go_wp2_with fail
  refine HC.out.mono ?_
  rintro e w16 ⟨rfl, hk16⟩
  have HK16 := Lib.hid (HK15.out.trans hk16)
  have HB16 := Lib.hid (HB15.out.keep hk16 (fun h => h))
  have HG16 := Lib.hid (HG15.out.never hk16)
  clear hk16 HC z0 z1 z2
  have z0 : w16.cell? ⟨b1, 0, none⟩ = some (.slice A2 n2 c2) := HB16.out.cell 0
  have z1 : w16.cell? ⟨b1, 1, none⟩ = some (.slice B2 m2 d2) := HB16.out.cell 1
  have z2 : w16.cell? ⟨b1, 2, none⟩ = some (.bool k2) := HB16.out.cell 2
  have HC := Lib.hid (gfree_any _ _ w.heap.size none 0 0 [] w16 HG16.out (SpG.nil _ _) (by omega) HLb.out.small (by decide) HK16.out.size)
  rw [aw_free] at HC
  dsimp only [LA.cs] at HC
  go_wp2_with fail
  refine HC.out.mono ?_
  rintro e w17 ⟨rfl, hk17⟩
  go_wp2_with fail
  go_ret
  exact ⟨rfl, HK16.out.trans hk17⟩
end Go.Proofs.Ytlcbajdckgcopaa
