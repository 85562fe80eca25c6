/- Chapter 16 (lock): met, May. -/
import Derived.Test.YtijdkjcjhfebfaaGreatLckC
namespace Go.Proofs.YtijdkjcjhfebfaaGreat
open Go.RowKit

theorem extM_40 {t : Tp} (route : Int) : (extM t route).length ≤ 40 := by
  unfold extM
  cases e : rtM t.2.2.2 route with
  | none => simp
  | some r =>
    simp only
    split
    · rename_i h
      split
      · have h1 := normM_len (overK t.1 0 (lenM t r.2.1).1 r.2.1 r.2.1.length)
        have h2 := overK_len t.1 0 (lenM t r.2.1).1 r.2.1 r.2.1.length
        have h3 : r.2.1.length ≤ 40 := by
          unfold lenM at h
          split at h
          · exact absurd h (by decide)
          · omega
        omega
      · simp
    · simp
theorem mayI_f {t : Tp} {x : Itr} (h : checkM t = 0 → x.1.length ≤ 24 → 1 ≤ x.2 → x.2 ≤ 1099511627776 → (∀ i, i < x.1.length → okI t x i = true) → False) : mayI t x = false := by
  rw [← Bool.not_eq_true]
  intro hh
  unfold mayI at hh
  simp only [Bool.and_eq_true, decide_eq_true_eq] at hh
  obtain ⟨⟨⟨⟨h1, h2⟩, h3⟩, h4⟩, h5⟩ := hh
  rw [List.all_eq_true] at h5
  exact h h1 h2 h3 h4 (fun i hi => h5 i (List.mem_range.2 hi))
theorem mayI_t {t : Tp} {x : Itr} (h1 : checkM t = 0) (h2 : x.1.length ≤ 24) (h3 : 1 ≤ x.2) (h4 : x.2 ≤ 1099511627776) (h5 : ∀ i, i < x.1.length → okI t x i = true) : mayI t x = true := by
  unfold mayI
  simp only [Bool.and_eq_true, decide_eq_true_eq]
  refine ⟨⟨⟨⟨h1, h2⟩, h3⟩, h4⟩, ?_⟩
  rw [List.all_eq_true]
  intro i hi
  exact h5 i (List.mem_range.1 hi)

set_option maxHeartbeats 4000000 in
set_option maxRecDepth 100000 in
theorem metF_any (x : TA) (t : Tp) (B : Nat) (a b c train : Int) (E : List Sp) (AE : Option Addr) (nE cE BE g1 g2 g3 : Nat) (w : World) (ht : TpAt w B x t) (hs : TpSmall x t) (hB : B ≤ w.heap.size) (hE : SpAt w BE AE nE cE E) (hBE : BE ≤ w.heap.size) (hnE : nE ≤ 200000) (h1 : Blk w g1 3 #[.int .i64 train]) (h2 : Blk w g2 44 #[.slice AE nE cE]) (h3 : Blk w g3 27 x.cs) :
    Calls Tryz.prog 51 #[.agg #[.int .i64 a, .int .i64 b, .int .i64 c], .pointer (some ⟨g1, 0, none⟩), .pointer (some ⟨g2, 0, none⟩), .pointer (some ⟨g3, 0, none⟩)] w fun e w' => e = .returned (.bool ((b != train) && meetsM E (extM t a))) ∧ Keep Never w w' := by
  have HEx : Hid (∀ V, Keep Never w V → Calls Tryz.prog 15 #[.agg x.cs, .int .i64 a] V (SpsRet (extM t a) V)) := Lib.hid (fun V h => ext_any x t B a V (ht.keep h) hs (Nat.le_trans hB h.size))
  have HMe : Hid (∀ V A n c, Keep Never w V → SpAt V V.heap.size A n c (extM t a) → Calls Tryz.prog 52 #[.slice AE nE cE, .slice A n c] V fun e w' => e = .returned (.bool (meetsM E (extM t a))) ∧ Keep Never V w') := Lib.hid (fun V A n c h hx => (meets_any V.heap.size AE nE cE A n c E _ V ((hE.keep h).more (Nat.le_trans hBE h.size)) hx hnE (by have h1 := hx.len; have h2 := extM_40 (t := t) a; omega) (Nat.le_refl _)).mono (fun e w' ⟨r, h1, h2, h3⟩ => ⟨by rw [h1, meetsB_eq h2], h3⟩))
  obtain ⟨Ae, ne, ce, Aj, nj, cj, Ab, nb, cb, Ar, nr, cr⟩ := x
  simp only [TA.cs] at HEx h3 ⊢
  clear ht hs hB hE hBE hnE
  obtain ⟨mb, hmb⟩ : ∃ z, meetsM E (extM t a) = z := ⟨_, rfl⟩
  rw [hmb] at HMe ⊢
  clear hmb
  obtain ⟨w1, hw1⟩ : ∃ V : World, w.alloc (.cells #[.int .i64 a, .int .i64 b, .int .i64 c] 63) = V := ⟨_, rfl⟩
  have kw1 : Keep Never w w1 := by rw [← hw1]; exact (Keep.refl _ _).alloc _
  have bw1 := Blk.new w 63 #[.int .i64 a, .int .i64 b, .int .i64 c]
  rw [hw1] at bw1
  have HB1 := Lib.hid bw1
  have HK := Lib.hid kw1
  clear kw1 bw1
  have H1 := Lib.hid (h1.keep HK.out (fun h => h))
  have H2 := Lib.hid (h2.keep HK.out (fun h => h))
  have H3 := Lib.hid (h3.keep HK.out (fun h => h))
  clear h1 h2 h3
  have HX1 := Lib.hid (fun V (h : Keep Never w1 V) => HEx.out V (HK.out.trans h))
  have HX2 := Lib.hid (fun V A n c (h : Keep Never w1 V) (hx : SpAt V V.heap.size A n c (extM t a)) => HMe.out V A n c (HK.out.trans h) hx)
  have k0 : w1.cell? ⟨w.heap.size, 0, none⟩ = some (.int .i64 a) := HB1.out.cell 0
  have k1 : w1.cell? ⟨w.heap.size, 1, none⟩ = some (.int .i64 b) := HB1.out.cell 1
  have k2 : w1.cell? ⟨w.heap.size, 2, none⟩ = some (.int .i64 c) := HB1.out.cell 2
  have tr0 : w1.cell? ⟨g1, 0, none⟩ = some (.int .i64 train) := H1.out.cell 0
  have ee0 : w1.cell? ⟨g2, 0, none⟩ = some (.slice AE nE cE) := H2.out.cell 0
  have y0 : w1.cell? ⟨g3, 0, none⟩ = some (.slice Ae ne ce) := H3.out.cell 0
  have y1 : w1.cell? ⟨g3, 1, none⟩ = some (.slice Aj nj cj) := H3.out.cell 1
  have y2 : w1.cell? ⟨g3, 2, none⟩ = some (.slice Ab nb cb) := H3.out.cell 2
  have y3 : w1.cell? ⟨g3, 3, none⟩ = some (.slice Ar nr cr) := H3.out.cell 3
  cases g : (b != train) with
  | false =>
    go_enter Tryz.func51, Tryz.ntmps51
    go_wp2_with fail
    go_quiet (fail)
    go_wp2_with fail
    go_ret
    exact ⟨rfl, HK.out.trans ((Keep.refl Never _).drewN _)⟩
  | true =>
    have HS2 : Hid (∀ W', Keep Never w1 W' → Keep Never w1 W' ∧ W'.cell? ⟨w.heap.size, 0, none⟩ = some (.int .i64 a) ∧ W'.cell? ⟨w.heap.size, 1, none⟩ = some (.int .i64 b) ∧ W'.cell? ⟨w.heap.size, 2, none⟩ = some (.int .i64 c) ∧ W'.cell? ⟨g1, 0, none⟩ = some (.int .i64 train) ∧ W'.cell? ⟨g2, 0, none⟩ = some (.slice AE nE cE) ∧ W'.cell? ⟨g3, 0, none⟩ = some (.slice Ae ne ce) ∧ W'.cell? ⟨g3, 1, none⟩ = some (.slice Aj nj cj) ∧ W'.cell? ⟨g3, 2, none⟩ = some (.slice Ab nb cb) ∧ W'.cell? ⟨g3, 3, none⟩ = some (.slice Ar nr cr)) := Lib.hid (fun W' h => ⟨h, keepT h k0, keepT h k1, keepT h k2, keepT h tr0, keepT h ee0, keepT h y0, keepT h y1, keepT h y2, keepT h y3⟩)
    go_enter Tryz.func51, Tryz.ntmps51
    go_wp2_with fail
    clear k0 k1 k2 tr0 ee0 y0 y1 y2 y3
    go_region_held3 (fun W' => Keep Never w1 W' ∧ W'.cell? ⟨w.heap.size, 0, none⟩ = some (.int .i64 a) ∧ W'.cell? ⟨w.heap.size, 1, none⟩ = some (.int .i64 b) ∧ W'.cell? ⟨w.heap.size, 2, none⟩ = some (.int .i64 c) ∧ W'.cell? ⟨g1, 0, none⟩ = some (.int .i64 train) ∧ W'.cell? ⟨g2, 0, none⟩ = some (.slice AE nE cE) ∧ W'.cell? ⟨g3, 0, none⟩ = some (.slice Ae ne ce) ∧ W'.cell? ⟨g3, 1, none⟩ = some (.slice Aj nj cj) ∧ W'.cell? ⟨g3, 2, none⟩ = some (.slice Ab nb cb) ∧ W'.cell? ⟨g3, 3, none⟩ = some (.slice Ar nr cr))
      (first | assumption | exact HS2.out _ ((Keep.refl Never w1).drew) | exact HS2.out _ (Keep.trans (And.left (by assumption)) hk3) | exact HS2.out _ (Keep.trans ((Keep.refl Never w1).drew) hk3))
      (first
        | (go_at_call 15; refine (HX1.out _ (by first | exact And.left (by assumption) | exact (Keep.refl Never w1).drew | exact Keep.refl Never w1)).mono ?_; rintro e w3 ⟨A6, n6, c6, rfl, hn6, hs6, hk3⟩; have HS6 : Hid (∀ V, Keep Never w3 V → SpAt V V.heap.size A6 n6 c6 (extM t a)) := Lib.hid (fun V h => hs6.here h); have HK36 := Lib.hid (Keep.refl Never w3))
        | (go_at_call 52; refine (HX2.out _ A6 n6 c6 (by first | exact And.left (by assumption) | exact (Keep.refl Never w1).drew | exact Keep.refl Never w1) (HS6.out _ HK36.out)).mono ?_; rintro e w7 ⟨rfl, hk3⟩))
    all_goals
      rename_i hS
      have HKe := Lib.hid (HK.out.trans hS.1)
      clear hS
      go_wp2_with fail
      go_ret
      exact ⟨by simp, HKe.out⟩

set_option maxHeartbeats 4000000 in
set_option maxRecDepth 100000 in
theorem met_any (x : TA) (t : Tp) (B : Nat) (A : Option Addr) (n c : Nat) (l : List Lk) (route train : Int) (w : World) (ht : TpAt w B x t) (hs : TpSmall x t) (hB : B ≤ w.heap.size) (hl : SpAt w B A n c l) (hn : n ≤ 1000000) :
    Calls Tryz.prog 29 #[.agg x.cs, .slice A n c, .int .i64 route, .int .i64 train] w fun e w' => e = .returned (.bool (metB t l route train)) ∧ Keep Never w w' := by
  have HEx : Hid (∀ V, Keep Never w V → Calls Tryz.prog 15 #[.agg x.cs, .int .i64 route] V (SpsRet (extM t route) V)) := Lib.hid (fun V h => ext_any x t B route V (ht.keep h) hs (Nat.le_trans hB h.size))
  have HF1 := Lib.hid (fun V (h : Keep Never w V) (s : Sp) (AE : Option Addr) (nE cE BE g1 g2 g3 : Nat) (hE : SpAt V BE AE nE cE (extM t route)) (hBE : BE ≤ V.heap.size) (hnE : nE ≤ 200000) h1 h2 h3 => metF_any x t B s.1 s.2.1 s.2.2 train (extM t route) AE nE cE BE g1 g2 g3 V (ht.keep h) hs (Nat.le_trans hB h.size) hE hBE hnE h1 h2 h3)
  have HL := Lib.hid hl
  obtain ⟨Ae, ne, ce, Aj, nj, cj, Ab, nb, cb, Ar, nr, cr⟩ := x
  simp only [TA.cs] at HEx HF1 ⊢
  clear ht hs hB hl
  obtain ⟨w1, hw1⟩ : ∃ V : World, w.alloc (.cells #[.slice Ae ne ce, .slice Aj nj cj, .slice Ab nb cb, .slice Ar nr cr] 27) = V := ⟨_, rfl⟩
  have zw1 : w1.heap.size = w.heap.size + 1 := by rw [← hw1]; simp
  have kw1 : Keep Never w w1 := by rw [← hw1]; exact (Keep.refl _ _).alloc _
  have bw1 := Blk.new w 27 #[.slice Ae ne ce, .slice Aj nj cj, .slice Ab nb cb, .slice Ar nr cr]
  rw [hw1] at bw1
  obtain ⟨w2, hw2⟩ : ∃ V : World, w1.alloc (.cells #[.int .i64 train] 3) = V := ⟨_, rfl⟩
  have kw2 : Keep Never w1 w2 := by rw [← hw2]; exact (Keep.refl _ _).alloc _
  have bw2 := Blk.new w1 3 #[.int .i64 train]
  rw [hw2, zw1] at bw2
  have HB1 := Lib.hid (bw1.keep kw2 (fun h => h))
  have HB2 := Lib.hid bw2
  have HK := Lib.hid (kw1.trans kw2)
  clear kw1 kw2 bw1 bw2
  have y0 : w2.cell? ⟨w.heap.size, 0, none⟩ = some (.slice Ae ne ce) := HB1.out.cell 0
  have y1 : w2.cell? ⟨w.heap.size, 1, none⟩ = some (.slice Aj nj cj) := HB1.out.cell 1
  have y2 : w2.cell? ⟨w.heap.size, 2, none⟩ = some (.slice Ab nb cb) := HB1.out.cell 2
  have y3 : w2.cell? ⟨w.heap.size, 3, none⟩ = some (.slice Ar nr cr) := HB1.out.cell 3
  have tr0 : w2.cell? ⟨w.heap.size + 1, 0, none⟩ = some (.int .i64 train) := HB2.out.cell 0
  have HC := Lib.hid (HEx.out w2 HK.out)
  clear HEx
  go_enter Tryz.func29, Tryz.ntmps29
  go_wp2_with fail
  refine HC.out.mono ?_
  rintro e w101 ⟨A6, n6, c6, rfl, hn6, hs6, hk1⟩
  have HS6 := Lib.hid hs6
  have HN6 : Hid (n6 ≤ 40) := Lib.hid (by have h1 := hs6.len; have h2 := extM_40 (t := t) route; omega)
  clear hs6 hn6
  have HK1 := Lib.hid (HK.out.trans hk1)
  have Hy1 := Lib.hid (HB1.out.keep hk1 (fun h => h))
  have Htr1 := Lib.hid (HB2.out.keep hk1 (fun h => h))
  clear y0 y1 y2 y3 tr0 hk1 HC
  obtain ⟨w102, hw102⟩ : ∃ V : World, w101.alloc (.cells #[.slice A6 n6 c6] 44) = V := ⟨_, rfl⟩
  have kx : Keep Never w101 w102 := by rw [← hw102]; exact (Keep.refl _ _).alloc _
  have bx := Blk.new w101 44 #[.slice A6 n6 c6]
  rw [hw102] at bx
  obtain ⟨be, hbe⟩ : ∃ q, w101.heap.size = q := ⟨_, rfl⟩
  rw [hbe] at bx
  have HBx2 := Lib.hid bx
  have HK2 := Lib.hid (HK1.out.trans kx)
  have Hy2 := Lib.hid (Hy1.out.keep kx (fun h => h))
  have Htr2 := Lib.hid (Htr1.out.keep kx (fun h => h))
  clear kx bx
  have HS6 := Lib.hid (HS6.out.here (show Keep Never w101 w102 from by rw [← hw102]; exact (Keep.refl Never _).alloc _))
  have HC := Lib.hid (containsfk_any 51 #[.pointer (some ⟨w.heap.size + 1, 0, none⟩), .pointer (some ⟨be, 0, none⟩), .pointer (some ⟨w.heap.size, 0, none⟩)] (fun s => (s.2.1 != train) && meetsM (extM t route) (extM t s.1)) (enters_of Tryz.func51 (by kernel_rfl) rfl) A n c B l w102 (HL.out.keep HK2.out).rd (fun W s hk => HF1.out W (HK2.out.trans hk) s A6 n6 c6 _ _ _ _ (HS6.out.keep hk) hk.size (by have := HN6.out; omega) (Htr2.out.keep hk (fun h => h)) (HBx2.out.keep hk (fun h => h)) (Hy2.out.keep hk (fun h => h))) (by omega))
  clear HF1
  have y0 : w102.cell? ⟨w.heap.size, 0, none⟩ = some (.slice Ae ne ce) := Hy2.out.cell 0
  have y1 : w102.cell? ⟨w.heap.size, 1, none⟩ = some (.slice Aj nj cj) := Hy2.out.cell 1
  have y2 : w102.cell? ⟨w.heap.size, 2, none⟩ = some (.slice Ab nb cb) := Hy2.out.cell 2
  have y3 : w102.cell? ⟨w.heap.size, 3, none⟩ = some (.slice Ar nr cr) := Hy2.out.cell 3
  have tr0 : w102.cell? ⟨w.heap.size + 1, 0, none⟩ = some (.int .i64 train) := Htr2.out.cell 0
  have e0 : w102.cell? ⟨be, 0, none⟩ = some (.slice A6 n6 c6) := HBx2.out.cell 0
  go_wp2_with fail
  refine HC.out.mono ?_
  rintro en w103 ⟨rfl, hk3⟩
  have HK3 := Lib.hid (HK2.out.trans hk3)
  have Hy3 := Lib.hid (Hy2.out.keep hk3 (fun h => h))
  have Htr3 := Lib.hid (Htr2.out.keep hk3 (fun h => h))
  have He3 := Lib.hid (HBx2.out.keep hk3 (fun h => h))
  clear y0 y1 y2 y3 tr0 e0 hk3 HC
  go_wp2_with fail
  go_ret
  exact ⟨rfl, HK3.out⟩

end Go.Proofs.YtijdkjcjhfebfaaGreat
