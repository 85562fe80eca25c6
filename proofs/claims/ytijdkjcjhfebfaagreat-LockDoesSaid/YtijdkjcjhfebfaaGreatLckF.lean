/- Chapter 16 (lock): May. -/
import Derived.Test.YtijdkjcjhfebfaaGreatLckD
namespace Go.Proofs.YtijdkjcjhfebfaaGreat
open Go.RowKit

set_option maxHeartbeats 16000000 in
set_option maxRecDepth 100000 in
theorem may16_any (x : TA) (t : Tp) (B : Nat) (A : Option Addr) (n c : Nat) (l : List Lk) (nx : Int) (w : World) (ht : TpAt w B x t) (hs : TpSmall x t) (hB : B ≤ w.heap.size) (hl : SpAt w B A n c l) (hn : n ≤ 1000000) :
    Calls Tryz.prog 12 #[.agg x.cs, .agg #[.slice A n c, .int .i64 nx]] w fun e w' => e = .returned (.bool (mayI t (l, nx))) ∧ Keep Never w w' := by
  have HCh : Hid (∀ V, Keep Never w V → Calls Tryz.prog 37 #[.agg x.cs] V fun e w' => e = .returned (.int .i64 (checkM t)) ∧ Keep Never V w') := Lib.hid (fun V h => check_any x t B V (ht.keep h) hs (Nat.le_trans hB h.size))
  have HRt : Hid (∀ V r, Keep Never w V → Calls Tryz.prog 27 #[.agg x.cs, .int .i64 r] V (RtRet (rtM t.2.2.2 r) V)) := Lib.hid (fun V r h => route_any x t B r V (ht.keep h) hs.r hs.p (Nat.le_trans hB h.size))
  have HLd : Hid (∀ V k r, Keep Never w V → k ≤ n → Calls Tryz.prog 28 #[.slice A k c, .int .i64 r] V fun e w' => e = .returned (.bool (lockedB (l.take k) r)) ∧ Keep Never V w') := Lib.hid (fun V k r h hk => lkd_any A k c B (l.take k) r V ((hl.take hk).keep h) (by omega))
  have HMt : Hid (∀ V k r tr, Keep Never w V → k ≤ n → Calls Tryz.prog 29 #[.agg x.cs, .slice A k c, .int .i64 r, .int .i64 tr] V fun e w' => e = .returned (.bool (metB t (l.take k) r tr)) ∧ Keep Never V w') := Lib.hid (fun V k r tr h hk => met_any x t B A k c (l.take k) r tr V (ht.keep h) hs (Nat.le_trans hB h.size) ((hl.take hk).keep h) (by omega))
  have HNb := Lib.hid (fun tr V => nmb_any tr V)
  have HL := Lib.hid hl
  have HN : Hid (l.length = n) := Lib.hid hl.len
  have HCap : Hid (n ≤ c) := Lib.hid hl.cap
  obtain ⟨Ae, ne, ce, Aj, nj, cj, Ab, nb, cb, Ar, nr, cr⟩ := x
  simp only [TA.cs] at HCh HRt HMt ⊢
  clear ht hs hB hl
  obtain ⟨w1, hw1⟩ : ∃ V : World, w.alloc (.cells #[.slice Ae ne ce, .slice Aj nj cj, .slice Ab nb cb, .slice Ar nr cr] 27) = V := ⟨_, rfl⟩
  have zw1 : w1.heap.size = w.heap.size + 1 := by rw [← hw1]; simp
  have kw1 : Keep Never w w1 := by rw [← hw1]; exact (Keep.refl _ _).alloc _
  have bw1 := Blk.new w 27 #[.slice Ae ne ce, .slice Aj nj cj, .slice Ab nb cb, .slice Ar nr cr]
  rw [hw1] at bw1
  obtain ⟨w2, hw2⟩ : ∃ V : World, w1.alloc (.cells #[.slice A n c, .int .i64 nx] 30) = V := ⟨_, rfl⟩
  have kw2 : Keep Never w1 w2 := by rw [← hw2]; exact (Keep.refl _ _).alloc _
  have bw2 := Blk.new w1 30 #[.slice A n c, .int .i64 nx]
  rw [hw2, zw1] at bw2
  have HB1 := Lib.hid (bw1.keep kw2 (fun h => h))
  have HB2 := Lib.hid bw2
  have HK := Lib.hid (kw1.trans kw2)
  clear kw1 kw2 bw1 bw2
  obtain ⟨ck, hck⟩ : ∃ z, checkM t = z := ⟨_, rfl⟩
  have hw := HCh.out w2 HK.out
  rw [hck] at hw
  have HC := Lib.hid hw
  have HCk := Lib.hid hck
  clear HCh hw hck
  have y0 : w2.cell? ⟨w.heap.size, 0, none⟩ = some (.slice Ae ne ce) := HB1.out.cell 0
  have y1 : w2.cell? ⟨w.heap.size, 1, none⟩ = some (.slice Aj nj cj) := HB1.out.cell 1
  have y2 : w2.cell? ⟨w.heap.size, 2, none⟩ = some (.slice Ab nb cb) := HB1.out.cell 2
  have y3 : w2.cell? ⟨w.heap.size, 3, none⟩ = some (.slice Ar nr cr) := HB1.out.cell 3
  have q0 : w2.cell? ⟨w.heap.size + 1, 0, none⟩ = some (.slice A n c) := HB2.out.cell 0
  have q1 : w2.cell? ⟨w.heap.size + 1, 1, none⟩ = some (.int .i64 nx) := HB2.out.cell 1
  go_enter Tryz.func12, Tryz.ntmps12
  go_wp2_with fail
  refine HC.out.mono ?_
  rintro en w101 ⟨rfl, hk1⟩
  have HK1 := Lib.hid (HK.out.trans hk1)
  have Hy1 := Lib.hid (HB1.out.keep hk1 (fun h => h))
  have Hq1 := Lib.hid (HB2.out.keep hk1 (fun h => h))
  clear y0 y1 y2 y3 q0 q1 hk1 HC
  have y0 : w101.cell? ⟨w.heap.size, 0, none⟩ = some (.slice Ae ne ce) := Hy1.out.cell 0
  have y1 : w101.cell? ⟨w.heap.size, 1, none⟩ = some (.slice Aj nj cj) := Hy1.out.cell 1
  have y2 : w101.cell? ⟨w.heap.size, 2, none⟩ = some (.slice Ab nb cb) := Hy1.out.cell 2
  have y3 : w101.cell? ⟨w.heap.size, 3, none⟩ = some (.slice Ar nr cr) := Hy1.out.cell 3
  have q0 : w101.cell? ⟨w.heap.size + 1, 0, none⟩ = some (.slice A n c) := Hq1.out.cell 0
  have q1 : w101.cell? ⟨w.heap.size + 1, 1, none⟩ = some (.int .i64 nx) := Hq1.out.cell 1
  by_cases g0 : ck ≠ 0
  · have t0 : (ck != 0) = true := by simpa using g0
    have HF : Hid (mayI t (l, nx) = false) := Lib.hid (mayI_f (fun h1 h2 h3 h4 h5 => g0 (by rw [← HCk.out]; exact h1)))
    clear g0
    go_wp2_with fail
    go_ret
    exact ⟨by rw [HF.out]; rfl, HK1.out⟩
  have t0 : (ck != 0) = false := by simpa using g0
  have g0 : ck = 0 := by omega
  subst g0
  by_cases g1 : (n : Int) > 24
  · have t1 : decide ((n : Int) > 24) = true := by simpa using g1
    have HF : Hid (mayI t (l, nx) = false) := Lib.hid (mayI_f (fun h1 h2 h3 h4 h5 => by have := HN.out; simp only at h2; omega))
    clear g1
    go_wp2_with fail
    go_ret
    exact ⟨by rw [HF.out]; rfl, HK1.out⟩
  have t1 : decide ((n : Int) > 24) = false := by simpa using g1
  by_cases g2 : nx < 1
  · have t2 : decide (nx < 1) = true := by simpa using g2
    have HF : Hid (mayI t (l, nx) = false) := Lib.hid (mayI_f (fun h1 h2 h3 h4 h5 => by simp only at h3; omega))
    clear g2 g1
    go_wp2_with fail
    go_ret
    exact ⟨by rw [HF.out]; rfl, HK1.out⟩
  have t2 : decide (nx < 1) = false := by simpa using g2
  by_cases g3 : nx > 1099511627776
  · have t3 : decide (nx > 1099511627776) = true := by simpa using g3
    have HF : Hid (mayI t (l, nx) = false) := Lib.hid (mayI_f (fun h1 h2 h3 h4 h5 => by simp only at h4; omega))
    clear g3 g1 g2
    go_wp2_with fail
    go_ret
    exact ⟨by rw [HF.out]; rfl, HK1.out⟩
  have t3 : decide (nx > 1099511627776) = false := by simpa using g3
  have HG : Hid (n ≤ 24 ∧ 1 ≤ nx ∧ nx ≤ 1099511627776) := Lib.hid (by omega)
  clear g1 g2 g3
  go_wp2_with fail
  clear t0 t1 t2 t3
  clear y0 y1 y2 y3 q0 q1
  go_loopw [5, 32] (fun s5 si wr => ∃ (k : Nat) (la : Int), k ≤ n ∧ si = .int .i64 k ∧ s5 = .int .i64 la ∧ Hid (la = lastI l k ∧ Keep Never w101 wr ∧ ∀ j, j < k → okI t (l, nx) j = true)) (fun _ si _ => n - (intOf si).toNat)
  case atStart => exact ⟨0, 0, by omega, rfl, rfl, Lib.hid ⟨rfl, Keep.refl _ _, fun j h => by omega⟩⟩
  case round =>
    obtain ⟨k, la, hk, rfl, rfl, HH⟩ := hrel
    by_cases h0 : k < n
    · have hki : (k : Int) < (n : Int) := by omega
      obtain ⟨ad, s, hA, _, hsk, c0, c1, c2⟩ := (HL.out.keep (HK1.out.trans HH.out.2.1)).rd.sp h0
      obtain ⟨s1, s2, s3⟩ := s
      simp only at c0 c1 c2
      have Hsk := Lib.hid hsk
      have hkn : k ≤ n := by omega
      have Hkn := Lib.hid hkn
      clear hsk hkn
      subst hA
      obtain ⟨w4, hw4⟩ : ∃ V : World, wr.alloc (.cells #[.int .i64 s1, .int .i64 s2, .int .i64 s3] 63) = V := ⟨_, rfl⟩
      have k4 : Keep Never wr w4 := by rw [← hw4]; exact (Keep.refl _ _).alloc _
      have B4 := Blk.new wr 63 #[.int .i64 s1, .int .i64 s2, .int .i64 s3]
      rw [hw4] at B4
      obtain ⟨br, hbr⟩ : ∃ q, wr.heap.size = q := ⟨_, rfl⟩
      rw [hbr] at B4
      have HB4 := Lib.hid B4
      have HK4 := Lib.hid (HK1.out.trans (HH.out.2.1.trans k4))
      have HKy4 := Lib.hid (HH.out.2.1.trans k4)
      have Hy4 := Lib.hid (Hy1.out.keep HKy4.out (fun h => h))
      have Hq4 := Lib.hid (Hq1.out.keep HKy4.out (fun h => h))
      have HKr := Lib.hid HKy4.out
      clear k4 B4
      have y0 : w4.cell? ⟨w.heap.size, 0, none⟩ = some (.slice Ae ne ce) := Hy4.out.cell 0
      have y1 : w4.cell? ⟨w.heap.size, 1, none⟩ = some (.slice Aj nj cj) := Hy4.out.cell 1
      have y2 : w4.cell? ⟨w.heap.size, 2, none⟩ = some (.slice Ab nb cb) := Hy4.out.cell 2
      have y3 : w4.cell? ⟨w.heap.size, 3, none⟩ = some (.slice Ar nr cr) := Hy4.out.cell 3
      have q0 : w4.cell? ⟨w.heap.size + 1, 0, none⟩ = some (.slice (some ad) n c) := Hq4.out.cell 0
      have q1 : w4.cell? ⟨w.heap.size + 1, 1, none⟩ = some (.int .i64 nx) := Hq4.out.cell 1
      have k0 : w4.cell? ⟨br, 0, none⟩ = some (.int .i64 s1) := HB4.out.cell 0
      have k1 : w4.cell? ⟨br, 1, none⟩ = some (.int .i64 s2) := HB4.out.cell 1
      have k2 : w4.cell? ⟨br, 2, none⟩ = some (.int .i64 s3) := HB4.out.cell 2
      by_cases g4 : s3 ≤ la
      · have t4 : decide (s3 ≤ la) = true := by simpa using g4
        have HF : Hid (mayI t (l, nx) = false) := Lib.hid (mayI_f (fun h1 h2 h3 h4 h5 => by have h6 := (okI_iff Hsk.out).1 (h5 k (by simp only; have := HN.out; omega)); simp only at h6; have := HH.out.1; omega))
        clear g4
        go_wp2_with fail
        go_ret
        exact ⟨by rw [HF.out]; rfl, HK1.out.trans HKr.out⟩
      have t4 : decide (s3 ≤ la) = false := by simpa using g4
      by_cases g5 : s3 ≥ nx
      · have t5 : decide (s3 ≥ nx) = true := by simpa using g5
        have HF : Hid (mayI t (l, nx) = false) := Lib.hid (mayI_f (fun h1 h2 h3 h4 h5 => by have h6 := (okI_iff Hsk.out).1 (h5 k (by simp only; have := HN.out; omega)); simp only at h6; omega))
        clear g5 g4
        go_wp2_with fail
        go_ret
        exact ⟨by rw [HF.out]; rfl, HK1.out.trans HKr.out⟩
      have t5 : decide (s3 ≥ nx) = false := by simpa using g5
      have HG2 : Hid (lastI l k < s3 ∧ s3 < nx) := Lib.hid (by have := HH.out.1; omega)
      clear g4 g5
      obtain ⟨tb, htb⟩ : ∃ z, trainB s2 = z := ⟨_, rfl⟩
      have hw := HNb.out s2 w4
      rw [htb] at hw
      have HC := Lib.hid hw
      have HTb := Lib.hid htb
      clear hw htb
      go_wp2_with fail
      refine HC.out.mono ?_
      rintro en w105 ⟨rfl, hk5⟩
      have HK5 := Lib.hid (HKr.out.trans hk5)
      have Hy5 := Lib.hid (Hy4.out.keep hk5 (fun h => h))
      have Hq5 := Lib.hid (Hq4.out.keep hk5 (fun h => h))
      have Hk5 := Lib.hid (HB4.out.keep hk5 (fun h => h))
      clear y0 y1 y2 y3 q0 q1 k0 k1 k2 hk5 HC
      clear t4 t5 c0 c1 c2 hw4 hbr
      have y0 : w105.cell? ⟨w.heap.size, 0, none⟩ = some (.slice Ae ne ce) := Hy5.out.cell 0
      have y1 : w105.cell? ⟨w.heap.size, 1, none⟩ = some (.slice Aj nj cj) := Hy5.out.cell 1
      have y2 : w105.cell? ⟨w.heap.size, 2, none⟩ = some (.slice Ab nb cb) := Hy5.out.cell 2
      have y3 : w105.cell? ⟨w.heap.size, 3, none⟩ = some (.slice Ar nr cr) := Hy5.out.cell 3
      have q0 : w105.cell? ⟨w.heap.size + 1, 0, none⟩ = some (.slice (some ad) n c) := Hq5.out.cell 0
      have q1 : w105.cell? ⟨w.heap.size + 1, 1, none⟩ = some (.int .i64 nx) := Hq5.out.cell 1
      have k0 : w105.cell? ⟨br, 0, none⟩ = some (.int .i64 s1) := Hk5.out.cell 0
      have k1 : w105.cell? ⟨br, 1, none⟩ = some (.int .i64 s2) := Hk5.out.cell 1
      have k2 : w105.cell? ⟨br, 2, none⟩ = some (.int .i64 s3) := Hk5.out.cell 2
      cases tb with
      | false =>
        have HF : Hid (mayI t (l, nx) = false) := Lib.hid (mayI_f (fun h1 h2 h3 h4 h5 => by have h6 := (okI_iff Hsk.out).1 (h5 k (by simp only; have := HN.out; omega)); simp only at h6; rw [HTb.out] at h6; exact absurd h6.2.2.1 (by decide)))
        go_wp2_with fail
        go_ret
        exact ⟨by rw [HF.out]; rfl, HK1.out.trans HK5.out⟩
      | true =>
        obtain ⟨o, ho⟩ : ∃ o, rtM t.2.2.2 s1 = o := ⟨_, rfl⟩
        have hw := HRt.out w105 s1 (HK1.out.trans HK5.out)
        rw [ho] at hw
        obtain ⟨r1, hr1⟩ : ∃ z, (o.getD (0, [], 0, 0)).1 = z := ⟨_, rfl⟩
        obtain ⟨r3, hr3⟩ : ∃ z, (o.getD (0, [], 0, 0)).2.2.1 = z := ⟨_, rfl⟩
        obtain ⟨r4, hr4⟩ : ∃ z, (o.getD (0, [], 0, 0)).2.2.2 = z := ⟨_, rfl⟩
        obtain ⟨os, hos⟩ : ∃ z, o.isSome = z := ⟨_, rfl⟩
        unfold RtRet at hw
        rw [hr1, hr3, hr4, hos] at hw
        have HC := Lib.hid hw
        have HOs : Hid ((rtM t.2.2.2 s1).isSome = os) := Lib.hid (by rw [ho]; exact hos)
        clear hw hr1 hr3 hr4 hos ho
        go_wp2_with fail
        refine HC.out.mono ?_
        rintro en w121 ⟨A7, n7, c7, rfl, _, hkr⟩
        have HK6 := Lib.hid (HK5.out.trans hkr)
        have Hy6 := Lib.hid (Hy5.out.keep hkr (fun h => h))
        have Hq6 := Lib.hid (Hq5.out.keep hkr (fun h => h))
        have Hk6 := Lib.hid (Hk5.out.keep hkr (fun h => h))
        clear y0 y1 y2 y3 q0 q1 k0 k1 k2 hkr HC
        obtain ⟨w107, hw107⟩ : ∃ V : World, w121.alloc (.cells #[.int .i64 r1, .slice A7 n7 c7, .int .i64 r3, .int .i64 r4] 57) = V := ⟨_, rfl⟩
        have kx : Keep Never w121 w107 := by rw [← hw107]; exact (Keep.refl _ _).alloc _
        have bx := Blk.new w121 57 #[.int .i64 r1, .slice A7 n7 c7, .int .i64 r3, .int .i64 r4]
        rw [hw107] at bx
        obtain ⟨brt, hbrt⟩ : ∃ q, w121.heap.size = q := ⟨_, rfl⟩
        rw [hbrt] at bx
        have HBx7 := Lib.hid bx
        have HK7 := Lib.hid (HK6.out.trans kx)
        have Hy7 := Lib.hid (Hy6.out.keep kx (fun h => h))
        have Hq7 := Lib.hid (Hq6.out.keep kx (fun h => h))
        have Hk7 := Lib.hid (Hk6.out.keep kx (fun h => h))
        clear kx bx
        cases os with
        | false =>
          have HF : Hid (mayI t (l, nx) = false) := Lib.hid (mayI_f (fun h1 h2 h3 h4 h5 => by have h6 := (okI_iff Hsk.out).1 (h5 k (by simp only; have := HN.out; omega)); simp only at h6; rw [HOs.out] at h6; exact absurd h6.2.2.2.1 (by decide)))
          have y0 : w107.cell? ⟨w.heap.size, 0, none⟩ = some (.slice Ae ne ce) := Hy7.out.cell 0
          have y1 : w107.cell? ⟨w.heap.size, 1, none⟩ = some (.slice Aj nj cj) := Hy7.out.cell 1
          have y2 : w107.cell? ⟨w.heap.size, 2, none⟩ = some (.slice Ab nb cb) := Hy7.out.cell 2
          have y3 : w107.cell? ⟨w.heap.size, 3, none⟩ = some (.slice Ar nr cr) := Hy7.out.cell 3
          have q0 : w107.cell? ⟨w.heap.size + 1, 0, none⟩ = some (.slice (some ad) n c) := Hq7.out.cell 0
          have q1 : w107.cell? ⟨w.heap.size + 1, 1, none⟩ = some (.int .i64 nx) := Hq7.out.cell 1
          have k0 : w107.cell? ⟨br, 0, none⟩ = some (.int .i64 s1) := Hk7.out.cell 0
          have k1 : w107.cell? ⟨br, 1, none⟩ = some (.int .i64 s2) := Hk7.out.cell 1
          have k2 : w107.cell? ⟨br, 2, none⟩ = some (.int .i64 s3) := Hk7.out.cell 2
          have HS2 : Hid (∀ W', Keep Never w107 W' → Keep Never w107 W' ∧ W'.cell? ⟨w.heap.size, 0, none⟩ = some (.slice Ae ne ce) ∧ W'.cell? ⟨w.heap.size, 1, none⟩ = some (.slice Aj nj cj) ∧ W'.cell? ⟨w.heap.size, 2, none⟩ = some (.slice Ab nb cb) ∧ W'.cell? ⟨w.heap.size, 3, none⟩ = some (.slice Ar nr cr) ∧ W'.cell? ⟨w.heap.size + 1, 0, none⟩ = some (.slice (some ad) n c) ∧ W'.cell? ⟨w.heap.size + 1, 1, none⟩ = some (.int .i64 nx) ∧ W'.cell? ⟨br, 0, none⟩ = some (.int .i64 s1) ∧ W'.cell? ⟨br, 1, none⟩ = some (.int .i64 s2) ∧ W'.cell? ⟨br, 2, none⟩ = some (.int .i64 s3)) := Lib.hid (fun W' h => ⟨h, keepT h y0, keepT h y1, keepT h y2, keepT h y3, keepT h q0, keepT h q1, keepT h k0, keepT h k1, keepT h k2⟩)
          go_wp2_with fail
          clear y0 y1 y2 y3 q0 q1 k0 k1 k2
          refine wp_region_noPanic ?_
          refine wp_region_held_drew (S := (fun W' => Keep Never w107 W' ∧ W'.cell? ⟨w.heap.size, 0, none⟩ = some (.slice Ae ne ce) ∧ W'.cell? ⟨w.heap.size, 1, none⟩ = some (.slice Aj nj cj) ∧ W'.cell? ⟨w.heap.size, 2, none⟩ = some (.slice Ab nb cb) ∧ W'.cell? ⟨w.heap.size, 3, none⟩ = some (.slice Ar nr cr) ∧ W'.cell? ⟨w.heap.size + 1, 0, none⟩ = some (.slice (some ad) n c) ∧ W'.cell? ⟨w.heap.size + 1, 1, none⟩ = some (.int .i64 nx) ∧ W'.cell? ⟨br, 0, none⟩ = some (.int .i64 s1) ∧ W'.cell? ⟨br, 1, none⟩ = some (.int .i64 s2) ∧ W'.cell? ⟨br, 2, none⟩ = some (.int .i64 s3))) (by kernel_rfl) ?_ (fun hHeld => ?_)
          · exact HS2.out _ ((Keep.refl Never w107).drew)
          refine wpAnyH_take (i := 0) (oi := ?_) (v := ?_) ?_ (by kernel_rfl) (by kernel_rfl) (by kernel_rfl) (fun _ _ _ h => h) (Or.inl ⟨?_, ?_⟩) (by assumption) ?_
          rotate_left 2
          · (simp only [List.getElem?_toArray, List.getElem?_cons_zero]; rfl)
          · rfl
          · (intro w hSw; (try dsimp only at hSw); go_simp; (try with_reducible rfl))
          try simp only [Act.put, List.setIfInBounds_toArray, List.set_cons_zero, List.set_cons_succ]
          refine wpAnyH_take (i := 1) (oi := ?_) (v := ?_) ?_ (by kernel_rfl) (by kernel_rfl) (by kernel_rfl) (fun _ _ _ h => h) (Or.inl ⟨?_, ?_⟩) (by assumption) ?_
          rotate_left 2
          · (simp only [List.getElem?_toArray, List.getElem?_cons_succ, List.getElem?_cons_zero]; rfl)
          · rfl
          · (intro w hSw; (try dsimp only at hSw); go_simp; (try with_reducible rfl))
          try simp only [Act.put, List.setIfInBounds_toArray, List.set_cons_zero, List.set_cons_succ]
          refine wpAnyH_take (i := 2) (oi := ?_) (v := ?_) ?_ (by kernel_rfl) (by kernel_rfl) (by kernel_rfl) (fun _ _ _ h => h) (Or.inl ⟨?_, ?_⟩) (by assumption) ?_
          rotate_left 2
          · (simp only [List.getElem?_toArray, List.getElem?_cons_succ, List.getElem?_cons_zero]; rfl)
          · rfl
          · (intro w hSw; (try dsimp only at hSw); go_simp; (try with_reducible rfl))
          try simp only [Act.put, List.setIfInBounds_toArray, List.set_cons_zero, List.set_cons_succ]
          refine wpAnyH_take (i := 3) (oi := ?_) (v := undef) ?_ (by kernel_rfl) (by kernel_rfl) (by kernel_rfl) (fun _ _ _ h => h) (Or.inr ⟨?_, rfl⟩) (by assumption) ?_
          rotate_left 1
          · (simp only [List.getElem?_toArray, List.getElem?_cons_succ, List.getElem?_cons_zero]; rfl)
          · rfl
          try simp only [Act.put, List.setIfInBounds_toArray, List.set_cons_zero, List.set_cons_succ]
          refine wpAnyH_take (i := 4) (oi := ?_) (v := undef) ?_ (by kernel_rfl) (by kernel_rfl) (by kernel_rfl) (fun _ _ _ h => h) (Or.inr ⟨?_, rfl⟩) (by assumption) ?_
          rotate_left 1
          · (simp only [List.getElem?_toArray, List.getElem?_cons_succ, List.getElem?_cons_zero]; rfl)
          · rfl
          try simp only [Act.put, List.setIfInBounds_toArray, List.set_cons_zero, List.set_cons_succ]
          refine wpAnyH_take (i := 5) (oi := ?_) (v := undef) ?_ (by kernel_rfl) (by kernel_rfl) (by kernel_rfl) (fun _ _ _ h => h) (Or.inr ⟨?_, rfl⟩) (by assumption) ?_
          rotate_left 1
          · (simp only [List.getElem?_toArray, List.getElem?_cons_succ, List.getElem?_cons_zero]; rfl)
          · rfl
          try simp only [Act.put, List.setIfInBounds_toArray, List.set_cons_zero, List.set_cons_succ]
          refine wpAnyH_take (i := 6) (oi := ?_) (v := undef) ?_ (by kernel_rfl) (by kernel_rfl) (by kernel_rfl) (fun _ _ _ h => h) (Or.inr ⟨?_, rfl⟩) (by assumption) ?_
          rotate_left 1
          · (simp only [List.getElem?_toArray, List.getElem?_cons_succ, List.getElem?_cons_zero]; rfl)
          · rfl
          try simp only [Act.put, List.setIfInBounds_toArray, List.set_cons_zero, List.set_cons_succ]
          refine wpAnyH_take (i := 7) (oi := ?_) (v := undef) ?_ (by kernel_rfl) (by kernel_rfl) (by kernel_rfl) (fun _ _ _ h => h) (Or.inr ⟨?_, rfl⟩) (by assumption) ?_
          rotate_left 1
          · (simp only [List.getElem?_toArray, List.getElem?_cons_succ, List.getElem?_cons_zero]; rfl)
          · rfl
          try simp only [Act.put, List.setIfInBounds_toArray, List.set_cons_zero, List.set_cons_succ]
          refine wpAnyH_take (i := 8) (oi := ?_) (v := undef) ?_ (by kernel_rfl) (by kernel_rfl) (by kernel_rfl) (fun _ _ _ h => h) (Or.inr ⟨?_, rfl⟩) (by assumption) ?_
          rotate_left 1
          · (simp only [List.getElem?_toArray, List.getElem?_cons_succ, List.getElem?_cons_zero]; rfl)
          · rfl
          try simp only [Act.put, List.setIfInBounds_toArray, List.set_cons_zero, List.set_cons_succ]
          refine wpAnyH_take (i := 9) (oi := ?_) (v := undef) ?_ (by kernel_rfl) (by kernel_rfl) (by kernel_rfl) (fun _ _ _ h => h) (Or.inr ⟨?_, rfl⟩) (by assumption) ?_
          rotate_left 1
          · (simp only [List.getElem?_toArray, List.getElem?_cons_succ, List.getElem?_cons_zero]; rfl)
          · rfl
          try simp only [Act.put, List.setIfInBounds_toArray, List.set_cons_zero, List.set_cons_succ]
          refine wpAnyH_take (i := 10) (oi := ?_) (v := ?_) ?_ (by kernel_rfl) (by kernel_rfl) (by kernel_rfl) (fun _ _ _ h => h) (Or.inl ⟨?_, ?_⟩) (by assumption) ?_
          rotate_left 2
          · (simp only [List.getElem?_toArray, List.getElem?_cons_succ, List.getElem?_cons_zero]; rfl)
          · rfl
          · (intro w hSw; (try dsimp only at hSw); go_simp; (try with_reducible rfl))
          try simp only [Act.put, List.setIfInBounds_toArray, List.set_cons_zero, List.set_cons_succ]
          refine wpAnyH_take (i := 11) (oi := ?_) (v := ?_) ?_ (by kernel_rfl) (by kernel_rfl) (by kernel_rfl) (fun _ _ _ h => h) (Or.inl ⟨?_, ?_⟩) (by assumption) ?_
          rotate_left 2
          · (simp only [List.getElem?_toArray, List.getElem?_cons_succ, List.getElem?_cons_zero]; rfl)
          · rfl
          · (intro w hSw; (try dsimp only at hSw); go_simp; (try with_reducible rfl))
          try simp only [Act.put, List.setIfInBounds_toArray, List.set_cons_zero, List.set_cons_succ]
          refine wpAnyH_take (i := 12) (oi := ?_) (v := undef) ?_ (by kernel_rfl) (by kernel_rfl) (by kernel_rfl) (fun _ _ _ h => h) (Or.inr ⟨?_, rfl⟩) (by assumption) ?_
          rotate_left 1
          · (simp only [List.getElem?_toArray, List.getElem?_cons_succ, List.getElem?_cons_zero]; rfl)
          · rfl
          try simp only [Act.put, List.setIfInBounds_toArray, List.set_cons_zero, List.set_cons_succ]
          refine wpAnyH_take (i := 13) (oi := ?_) (v := undef) ?_ (by kernel_rfl) (by kernel_rfl) (by kernel_rfl) (fun _ _ _ h => h) (Or.inr ⟨?_, rfl⟩) (by assumption) ?_
          rotate_left 1
          · (simp only [List.getElem?_toArray, List.getElem?_cons_succ, List.getElem?_cons_zero]; rfl)
          · rfl
          try simp only [Act.put, List.setIfInBounds_toArray, List.set_cons_zero, List.set_cons_succ]
          refine wpAnyH_take (i := 14) (oi := ?_) (v := undef) ?_ (by kernel_rfl) (by kernel_rfl) (by kernel_rfl) (fun _ _ _ h => h) (Or.inr ⟨?_, rfl⟩) (by assumption) ?_
          rotate_left 1
          · (simp only [List.getElem?_toArray, List.getElem?_cons_succ, List.getElem?_cons_zero]; rfl)
          · rfl
          try simp only [Act.put, List.setIfInBounds_toArray, List.set_cons_zero, List.set_cons_succ]
          refine wpAnyH_take (i := 15) (oi := ?_) (v := undef) ?_ (by kernel_rfl) (by kernel_rfl) (by kernel_rfl) (fun _ _ _ h => h) (Or.inr ⟨?_, rfl⟩) (by assumption) ?_
          rotate_left 1
          · (simp only [List.getElem?_toArray, List.getElem?_cons_succ, List.getElem?_cons_zero]; rfl)
          · rfl
          try simp only [Act.put, List.setIfInBounds_toArray, List.set_cons_zero, List.set_cons_succ]
          refine wpAnyH_take (i := 16) (oi := ?_) (v := undef) ?_ (by kernel_rfl) (by kernel_rfl) (by kernel_rfl) (fun _ _ _ h => h) (Or.inr ⟨?_, rfl⟩) (by assumption) ?_
          rotate_left 1
          · (simp only [List.getElem?_toArray, List.getElem?_cons_succ, List.getElem?_cons_zero]; rfl)
          · rfl
          try simp only [Act.put, List.setIfInBounds_toArray, List.set_cons_zero, List.set_cons_succ]
          refine wpAnyH_take (i := 17) (oi := ?_) (v := undef) ?_ (by kernel_rfl) (by kernel_rfl) (by kernel_rfl) (fun _ _ _ h => h) (Or.inr ⟨?_, rfl⟩) (by assumption) ?_
          rotate_left 1
          · (simp only [List.getElem?_toArray, List.getElem?_cons_succ, List.getElem?_cons_zero]; rfl)
          · rfl
          try simp only [Act.put, List.setIfInBounds_toArray, List.set_cons_zero, List.set_cons_succ]
          refine wpAnyH_take (i := 18) (oi := ?_) (v := undef) ?_ (by kernel_rfl) (by kernel_rfl) (by kernel_rfl) (fun _ _ _ h => h) (Or.inr ⟨?_, rfl⟩) (by assumption) ?_
          rotate_left 1
          · (simp only [List.getElem?_toArray, List.getElem?_cons_succ, List.getElem?_cons_zero]; rfl)
          · rfl
          try simp only [Act.put, List.setIfInBounds_toArray, List.set_cons_zero, List.set_cons_succ]
          refine wpAnyH_take (i := 19) (oi := ?_) (v := undef) ?_ (by kernel_rfl) (by kernel_rfl) (by kernel_rfl) (fun _ _ _ h => h) (Or.inr ⟨?_, rfl⟩) (by assumption) ?_
          rotate_left 1
          · (simp only [List.getElem?_toArray, List.getElem?_cons_succ, List.getElem?_cons_zero]; rfl)
          · rfl
          try simp only [Act.put, List.setIfInBounds_toArray, List.set_cons_zero, List.set_cons_succ]
          refine wpAnyH_take (i := 20) (oi := ?_) (v := undef) ?_ (by kernel_rfl) (by kernel_rfl) (by kernel_rfl) (fun _ _ _ h => h) (Or.inr ⟨?_, rfl⟩) (by assumption) ?_
          rotate_left 1
          · (simp only [List.getElem?_toArray, List.getElem?_cons_succ, List.getElem?_cons_zero]; rfl)
          · rfl
          try simp only [Act.put, List.setIfInBounds_toArray, List.set_cons_zero, List.set_cons_succ]
          refine wpAnyH_take (i := 21) (oi := ?_) (v := undef) ?_ (by kernel_rfl) (by kernel_rfl) (by kernel_rfl) (fun _ _ _ h => h) (Or.inr ⟨?_, rfl⟩) (by assumption) ?_
          rotate_left 1
          · (simp only [List.getElem?_toArray, List.getElem?_cons_succ, List.getElem?_cons_zero]; rfl)
          · rfl
          try simp only [Act.put, List.setIfInBounds_toArray, List.set_cons_zero, List.set_cons_succ]
          refine wpAnyH_take (i := 22) (oi := ?_) (v := ?_) ?_ (by kernel_rfl) (by kernel_rfl) (by kernel_rfl) (fun _ _ _ h => h) (Or.inl ⟨?_, ?_⟩) (by assumption) ?_
          rotate_left 2
          · (simp only [List.getElem?_toArray, List.getElem?_cons_succ, List.getElem?_cons_zero]; rfl)
          · rfl
          · (intro w hSw; (try dsimp only at hSw); go_simp; (try with_reducible rfl))
          try simp only [Act.put, List.setIfInBounds_toArray, List.set_cons_zero, List.set_cons_succ]
          refine wpAnyH_done (by kernel_rfl) ?_ _
          refine NoPanic.normal ?_
          have hS := hHeld
          have HKe := Lib.hid (HK1.out.trans (HK7.out.trans hS.1))
          clear hS hHeld
          go_wp2_with fail
          go_ret
          exact ⟨by rw [HF.out]; rfl, HKe.out⟩
        | true =>
          have hq := run_front Tryz.underlying28 Tryz.sizeOf63 (some ad) n c k Hkn.out HCap.out
          obtain ⟨lb, hlb⟩ : ∃ z, lockedB (l.take k) s1 = z := ⟨_, rfl⟩
          have HLb := Lib.hid hlb
          have HX1 := Lib.hid (fun V (h : Keep Never w107 V) => HLd.out V k s1 (HK1.out.trans (HK7.out.trans h)) Hkn.out)
          rw [hlb] at HX1
          obtain ⟨mb, hmb⟩ : ∃ z, metB t (l.take k) s1 s2 = z := ⟨_, rfl⟩
          have HMb := Lib.hid hmb
          have HX2 := Lib.hid (fun V (h : Keep Never w107 V) => HMt.out V k s1 s2 (HK1.out.trans (HK7.out.trans h)) Hkn.out)
          rw [hmb] at HX2
          clear hlb hmb
          cases lb with
          | true =>
            have HF : Hid (mayI t (l, nx) = false) := Lib.hid (mayI_f (fun h1 h2 h3 h4 h5 => by have h6 := (okI_iff Hsk.out).1 (h5 k (by simp only; have := HN.out; omega)); simp only at h6; rw [HLb.out] at h6; exact absurd h6.2.2.2.2.1 (by decide)))
            have y0 : w107.cell? ⟨w.heap.size, 0, none⟩ = some (.slice Ae ne ce) := Hy7.out.cell 0
            have y1 : w107.cell? ⟨w.heap.size, 1, none⟩ = some (.slice Aj nj cj) := Hy7.out.cell 1
            have y2 : w107.cell? ⟨w.heap.size, 2, none⟩ = some (.slice Ab nb cb) := Hy7.out.cell 2
            have y3 : w107.cell? ⟨w.heap.size, 3, none⟩ = some (.slice Ar nr cr) := Hy7.out.cell 3
            have q0 : w107.cell? ⟨w.heap.size + 1, 0, none⟩ = some (.slice (some ad) n c) := Hq7.out.cell 0
            have q1 : w107.cell? ⟨w.heap.size + 1, 1, none⟩ = some (.int .i64 nx) := Hq7.out.cell 1
            have k0 : w107.cell? ⟨br, 0, none⟩ = some (.int .i64 s1) := Hk7.out.cell 0
            have k1 : w107.cell? ⟨br, 1, none⟩ = some (.int .i64 s2) := Hk7.out.cell 1
            have k2 : w107.cell? ⟨br, 2, none⟩ = some (.int .i64 s3) := Hk7.out.cell 2
            have HS2 : Hid (∀ W', Keep Never w107 W' → Keep Never w107 W' ∧ W'.cell? ⟨w.heap.size, 0, none⟩ = some (.slice Ae ne ce) ∧ W'.cell? ⟨w.heap.size, 1, none⟩ = some (.slice Aj nj cj) ∧ W'.cell? ⟨w.heap.size, 2, none⟩ = some (.slice Ab nb cb) ∧ W'.cell? ⟨w.heap.size, 3, none⟩ = some (.slice Ar nr cr) ∧ W'.cell? ⟨w.heap.size + 1, 0, none⟩ = some (.slice (some ad) n c) ∧ W'.cell? ⟨w.heap.size + 1, 1, none⟩ = some (.int .i64 nx) ∧ W'.cell? ⟨br, 0, none⟩ = some (.int .i64 s1) ∧ W'.cell? ⟨br, 1, none⟩ = some (.int .i64 s2) ∧ W'.cell? ⟨br, 2, none⟩ = some (.int .i64 s3)) := Lib.hid (fun W' h => ⟨h, keepT h y0, keepT h y1, keepT h y2, keepT h y3, keepT h q0, keepT h q1, keepT h k0, keepT h k1, keepT h k2⟩)
            go_wp2_with fail
            clear y0 y1 y2 y3 q0 q1 k0 k1 k2
            refine wp_region_noPanic ?_
            refine wp_region_held_drew (S := (fun W' => Keep Never w107 W' ∧ W'.cell? ⟨w.heap.size, 0, none⟩ = some (.slice Ae ne ce) ∧ W'.cell? ⟨w.heap.size, 1, none⟩ = some (.slice Aj nj cj) ∧ W'.cell? ⟨w.heap.size, 2, none⟩ = some (.slice Ab nb cb) ∧ W'.cell? ⟨w.heap.size, 3, none⟩ = some (.slice Ar nr cr) ∧ W'.cell? ⟨w.heap.size + 1, 0, none⟩ = some (.slice (some ad) n c) ∧ W'.cell? ⟨w.heap.size + 1, 1, none⟩ = some (.int .i64 nx) ∧ W'.cell? ⟨br, 0, none⟩ = some (.int .i64 s1) ∧ W'.cell? ⟨br, 1, none⟩ = some (.int .i64 s2) ∧ W'.cell? ⟨br, 2, none⟩ = some (.int .i64 s3))) (by kernel_rfl) ?_ (fun hHeld => ?_)
            · exact HS2.out _ ((Keep.refl Never w107).drew)
            refine wpAnyH_take (i := 0) (oi := ?_) (v := ?_) ?_ (by kernel_rfl) (by kernel_rfl) (by kernel_rfl) (fun _ _ _ h => h) (Or.inl ⟨?_, ?_⟩) (by assumption) ?_
            rotate_left 2
            · (simp only [List.getElem?_toArray, List.getElem?_cons_zero]; rfl)
            · rfl
            · (intro w hSw; (try dsimp only at hSw); go_simp; (try with_reducible rfl))
            try simp only [Act.put, List.setIfInBounds_toArray, List.set_cons_zero, List.set_cons_succ]
            refine wpAnyH_take (i := 1) (oi := ?_) (v := ?_) ?_ (by kernel_rfl) (by kernel_rfl) (by kernel_rfl) (fun _ _ _ h => h) (Or.inl ⟨?_, ?_⟩) (by assumption) ?_
            rotate_left 2
            · (simp only [List.getElem?_toArray, List.getElem?_cons_succ, List.getElem?_cons_zero]; rfl)
            · rfl
            · (intro w hSw; (try dsimp only at hSw); go_simp; (try with_reducible rfl))
            try simp only [Act.put, List.setIfInBounds_toArray, List.set_cons_zero, List.set_cons_succ]
            refine wpAnyH_take (i := 2) (oi := ?_) (v := ?_) ?_ (by kernel_rfl) (by kernel_rfl) (by kernel_rfl) (fun _ _ _ h => h) (Or.inl ⟨?_, ?_⟩) (by assumption) ?_
            rotate_left 2
            · (simp only [List.getElem?_toArray, List.getElem?_cons_succ, List.getElem?_cons_zero]; rfl)
            · rfl
            · (intro w hSw; (try dsimp only at hSw); go_simp; (try with_reducible rfl))
            try simp only [Act.put, List.setIfInBounds_toArray, List.set_cons_zero, List.set_cons_succ]
            refine wpAnyH_take (i := 3) (oi := ?_) (v := ?_) ?_ (by kernel_rfl) (by kernel_rfl) (by kernel_rfl) (fun _ _ _ h => h) (Or.inl ⟨?_, ?_⟩) (by assumption) ?_
            rotate_left 2
            · (simp only [List.getElem?_toArray, List.getElem?_cons_succ, List.getElem?_cons_zero]; rfl)
            · rfl
            · (intro w hSw; (try dsimp only at hSw); go_simp; (try with_reducible rfl))
            try simp only [Act.put, List.setIfInBounds_toArray, List.set_cons_zero, List.set_cons_succ]
            refine wpAnyH_take (i := 4) (oi := ?_) (v := ?_) ?_ (by kernel_rfl) (by kernel_rfl) (by kernel_rfl) (fun _ _ _ h => h) (Or.inl ⟨?_, ?_⟩) (by assumption) ?_
            rotate_left 2
            · (simp only [List.getElem?_toArray, List.getElem?_cons_succ, List.getElem?_cons_zero]; rfl)
            · rfl
            · (intro w hSw; (try dsimp only at hSw); go_simp; (try with_reducible rfl))
            try simp only [Act.put, List.setIfInBounds_toArray, List.set_cons_zero, List.set_cons_succ]
            refine wpAnyH_take (i := 5) (oi := ?_) (v := ?_) ?_ (by kernel_rfl) (by kernel_rfl) (by kernel_rfl) (fun _ _ _ h => h) (Or.inl ⟨?_, ?_⟩) (by assumption) ?_
            rotate_left 2
            · (simp only [List.getElem?_toArray, List.getElem?_cons_succ, List.getElem?_cons_zero]; rfl)
            · rfl
            · (intro w hSw; (try dsimp only at hSw); go_simp; (try with_reducible rfl))
            try simp only [Act.put, List.setIfInBounds_toArray, List.set_cons_zero, List.set_cons_succ]
            refine wpAnyH_take (i := 6) (oi := ?_) (v := ?_) ?_ (by kernel_rfl) (by kernel_rfl) (by kernel_rfl) (fun _ _ _ h => h) (Or.inl ⟨?_, ?_⟩) (by assumption) ?_
            rotate_left 2
            · (simp only [List.getElem?_toArray, List.getElem?_cons_succ, List.getElem?_cons_zero]; rfl)
            · rfl
            · (intro w hSw; (try dsimp only at hSw); go_simp; (try with_reducible rfl))
            try simp only [Act.put, List.setIfInBounds_toArray, List.set_cons_zero, List.set_cons_succ]
            refine wpAnyH_take (i := 7) (oi := ?_) (v := ?_) ?_ (by kernel_rfl) (by kernel_rfl) (by kernel_rfl) (fun _ _ _ h => h) (Or.inl ⟨?_, ?_⟩) (by assumption) ?_
            rotate_left 2
            · (simp only [List.getElem?_toArray, List.getElem?_cons_succ, List.getElem?_cons_zero]; rfl)
            · rfl
            · (intro w hSw; (try dsimp only at hSw); go_simp; (try with_reducible rfl))
            try simp only [Act.put, List.setIfInBounds_toArray, List.set_cons_zero, List.set_cons_succ]
            refine wpAnyH_take (i := 8) (oi := ?_) (v := ?_) ?_ (by kernel_rfl) (by kernel_rfl) (by kernel_rfl) (fun _ _ _ h => h) (Or.inl ⟨?_, ?_⟩) (by assumption) ?_
            rotate_left 2
            · (simp only [List.getElem?_toArray, List.getElem?_cons_succ, List.getElem?_cons_zero]; rfl)
            · rfl
            · (intro w hSw; (try dsimp only at hSw); go_simp; (try with_reducible rfl))
            try simp only [Act.put, List.setIfInBounds_toArray, List.set_cons_zero, List.set_cons_succ]
            refine wpAnyH_ready (rs := [9]) (by kernel_rfl) (by simp) ?_
            refine AllReadyH.cons (o := ?_) ?_ (fun K hK => ?_) AllReadyH.nil
            rotate_left 1
            · (simp only [List.getElem?_toArray, List.getElem?_cons_succ, List.getElem?_cons_zero]; rfl)
            go_simp
            refine (HX1.out _ hHeld.1).mono ?_; rintro en w131 ⟨rfl, hk3⟩
            (try go_wp2_with fail)
            refine hK.out _ _ ?_ (fun hHeld => ?_)
            · (try dsimp only); exact HS2.out _ (hHeld.1.trans hk3)
            clear hK K
            try simp only [Act.put, List.setIfInBounds_toArray, List.set_cons_zero, List.set_cons_succ]
            refine wpAnyH_take (i := 10) (oi := ?_) (v := ?_) ?_ (by kernel_rfl) (by kernel_rfl) (by kernel_rfl) (fun _ _ _ h => h) (Or.inl ⟨?_, ?_⟩) (by assumption) ?_
            rotate_left 2
            · (simp only [List.getElem?_toArray, List.getElem?_cons_succ, List.getElem?_cons_zero]; rfl)
            · rfl
            · (intro w hSw; (try dsimp only at hSw); go_simp; (try with_reducible rfl))
            try simp only [Act.put, List.setIfInBounds_toArray, List.set_cons_zero, List.set_cons_succ]
            refine wpAnyH_take (i := 11) (oi := ?_) (v := ?_) ?_ (by kernel_rfl) (by kernel_rfl) (by kernel_rfl) (fun _ _ _ h => h) (Or.inl ⟨?_, ?_⟩) (by assumption) ?_
            rotate_left 2
            · (simp only [List.getElem?_toArray, List.getElem?_cons_succ, List.getElem?_cons_zero]; rfl)
            · rfl
            · (intro w hSw; (try dsimp only at hSw); go_simp; (try with_reducible rfl))
            try simp only [Act.put, List.setIfInBounds_toArray, List.set_cons_zero, List.set_cons_succ]
            refine wpAnyH_take (i := 12) (oi := ?_) (v := undef) ?_ (by kernel_rfl) (by kernel_rfl) (by kernel_rfl) (fun _ _ _ h => h) (Or.inr ⟨?_, rfl⟩) (by assumption) ?_
            rotate_left 1
            · (simp only [List.getElem?_toArray, List.getElem?_cons_succ, List.getElem?_cons_zero]; rfl)
            · rfl
            try simp only [Act.put, List.setIfInBounds_toArray, List.set_cons_zero, List.set_cons_succ]
            refine wpAnyH_take (i := 13) (oi := ?_) (v := undef) ?_ (by kernel_rfl) (by kernel_rfl) (by kernel_rfl) (fun _ _ _ h => h) (Or.inr ⟨?_, rfl⟩) (by assumption) ?_
            rotate_left 1
            · (simp only [List.getElem?_toArray, List.getElem?_cons_succ, List.getElem?_cons_zero]; rfl)
            · rfl
            try simp only [Act.put, List.setIfInBounds_toArray, List.set_cons_zero, List.set_cons_succ]
            refine wpAnyH_take (i := 14) (oi := ?_) (v := undef) ?_ (by kernel_rfl) (by kernel_rfl) (by kernel_rfl) (fun _ _ _ h => h) (Or.inr ⟨?_, rfl⟩) (by assumption) ?_
            rotate_left 1
            · (simp only [List.getElem?_toArray, List.getElem?_cons_succ, List.getElem?_cons_zero]; rfl)
            · rfl
            try simp only [Act.put, List.setIfInBounds_toArray, List.set_cons_zero, List.set_cons_succ]
            refine wpAnyH_take (i := 15) (oi := ?_) (v := undef) ?_ (by kernel_rfl) (by kernel_rfl) (by kernel_rfl) (fun _ _ _ h => h) (Or.inr ⟨?_, rfl⟩) (by assumption) ?_
            rotate_left 1
            · (simp only [List.getElem?_toArray, List.getElem?_cons_succ, List.getElem?_cons_zero]; rfl)
            · rfl
            try simp only [Act.put, List.setIfInBounds_toArray, List.set_cons_zero, List.set_cons_succ]
            refine wpAnyH_take (i := 16) (oi := ?_) (v := undef) ?_ (by kernel_rfl) (by kernel_rfl) (by kernel_rfl) (fun _ _ _ h => h) (Or.inr ⟨?_, rfl⟩) (by assumption) ?_
            rotate_left 1
            · (simp only [List.getElem?_toArray, List.getElem?_cons_succ, List.getElem?_cons_zero]; rfl)
            · rfl
            try simp only [Act.put, List.setIfInBounds_toArray, List.set_cons_zero, List.set_cons_succ]
            refine wpAnyH_take (i := 17) (oi := ?_) (v := undef) ?_ (by kernel_rfl) (by kernel_rfl) (by kernel_rfl) (fun _ _ _ h => h) (Or.inr ⟨?_, rfl⟩) (by assumption) ?_
            rotate_left 1
            · (simp only [List.getElem?_toArray, List.getElem?_cons_succ, List.getElem?_cons_zero]; rfl)
            · rfl
            try simp only [Act.put, List.setIfInBounds_toArray, List.set_cons_zero, List.set_cons_succ]
            refine wpAnyH_take (i := 18) (oi := ?_) (v := undef) ?_ (by kernel_rfl) (by kernel_rfl) (by kernel_rfl) (fun _ _ _ h => h) (Or.inr ⟨?_, rfl⟩) (by assumption) ?_
            rotate_left 1
            · (simp only [List.getElem?_toArray, List.getElem?_cons_succ, List.getElem?_cons_zero]; rfl)
            · rfl
            try simp only [Act.put, List.setIfInBounds_toArray, List.set_cons_zero, List.set_cons_succ]
            refine wpAnyH_take (i := 19) (oi := ?_) (v := undef) ?_ (by kernel_rfl) (by kernel_rfl) (by kernel_rfl) (fun _ _ _ h => h) (Or.inr ⟨?_, rfl⟩) (by assumption) ?_
            rotate_left 1
            · (simp only [List.getElem?_toArray, List.getElem?_cons_succ, List.getElem?_cons_zero]; rfl)
            · rfl
            try simp only [Act.put, List.setIfInBounds_toArray, List.set_cons_zero, List.set_cons_succ]
            refine wpAnyH_take (i := 20) (oi := ?_) (v := undef) ?_ (by kernel_rfl) (by kernel_rfl) (by kernel_rfl) (fun _ _ _ h => h) (Or.inr ⟨?_, rfl⟩) (by assumption) ?_
            rotate_left 1
            · (simp only [List.getElem?_toArray, List.getElem?_cons_succ, List.getElem?_cons_zero]; rfl)
            · rfl
            try simp only [Act.put, List.setIfInBounds_toArray, List.set_cons_zero, List.set_cons_succ]
            refine wpAnyH_take (i := 21) (oi := ?_) (v := undef) ?_ (by kernel_rfl) (by kernel_rfl) (by kernel_rfl) (fun _ _ _ h => h) (Or.inr ⟨?_, rfl⟩) (by assumption) ?_
            rotate_left 1
            · (simp only [List.getElem?_toArray, List.getElem?_cons_succ, List.getElem?_cons_zero]; rfl)
            · rfl
            try simp only [Act.put, List.setIfInBounds_toArray, List.set_cons_zero, List.set_cons_succ]
            refine wpAnyH_take (i := 22) (oi := ?_) (v := ?_) ?_ (by kernel_rfl) (by kernel_rfl) (by kernel_rfl) (fun _ _ _ h => h) (Or.inl ⟨?_, ?_⟩) (by assumption) ?_
            rotate_left 2
            · (simp only [List.getElem?_toArray, List.getElem?_cons_succ, List.getElem?_cons_zero]; rfl)
            · rfl
            · (intro w hSw; (try dsimp only at hSw); go_simp; (try with_reducible rfl))
            try simp only [Act.put, List.setIfInBounds_toArray, List.set_cons_zero, List.set_cons_succ]
            refine wpAnyH_done (by kernel_rfl) ?_ _
            refine NoPanic.normal ?_
            have hS := hHeld
            have HKe := Lib.hid (HK1.out.trans (HK7.out.trans hS.1))
            clear hS hHeld
            go_wp2_with fail
            go_ret
            exact ⟨by rw [HF.out]; rfl, HKe.out⟩
          | false =>
            have y0 : w107.cell? ⟨w.heap.size, 0, none⟩ = some (.slice Ae ne ce) := Hy7.out.cell 0
            have y1 : w107.cell? ⟨w.heap.size, 1, none⟩ = some (.slice Aj nj cj) := Hy7.out.cell 1
            have y2 : w107.cell? ⟨w.heap.size, 2, none⟩ = some (.slice Ab nb cb) := Hy7.out.cell 2
            have y3 : w107.cell? ⟨w.heap.size, 3, none⟩ = some (.slice Ar nr cr) := Hy7.out.cell 3
            have q0 : w107.cell? ⟨w.heap.size + 1, 0, none⟩ = some (.slice (some ad) n c) := Hq7.out.cell 0
            have q1 : w107.cell? ⟨w.heap.size + 1, 1, none⟩ = some (.int .i64 nx) := Hq7.out.cell 1
            have k0 : w107.cell? ⟨br, 0, none⟩ = some (.int .i64 s1) := Hk7.out.cell 0
            have k1 : w107.cell? ⟨br, 1, none⟩ = some (.int .i64 s2) := Hk7.out.cell 1
            have k2 : w107.cell? ⟨br, 2, none⟩ = some (.int .i64 s3) := Hk7.out.cell 2
            have HS2 : Hid (∀ W', Keep Never w107 W' → Keep Never w107 W' ∧ W'.cell? ⟨w.heap.size, 0, none⟩ = some (.slice Ae ne ce) ∧ W'.cell? ⟨w.heap.size, 1, none⟩ = some (.slice Aj nj cj) ∧ W'.cell? ⟨w.heap.size, 2, none⟩ = some (.slice Ab nb cb) ∧ W'.cell? ⟨w.heap.size, 3, none⟩ = some (.slice Ar nr cr) ∧ W'.cell? ⟨w.heap.size + 1, 0, none⟩ = some (.slice (some ad) n c) ∧ W'.cell? ⟨w.heap.size + 1, 1, none⟩ = some (.int .i64 nx) ∧ W'.cell? ⟨br, 0, none⟩ = some (.int .i64 s1) ∧ W'.cell? ⟨br, 1, none⟩ = some (.int .i64 s2) ∧ W'.cell? ⟨br, 2, none⟩ = some (.int .i64 s3)) := Lib.hid (fun W' h => ⟨h, keepT h y0, keepT h y1, keepT h y2, keepT h y3, keepT h q0, keepT h q1, keepT h k0, keepT h k1, keepT h k2⟩)
            go_wp2_with fail
            clear y0 y1 y2 y3 q0 q1 k0 k1 k2
            refine wp_region_noPanic ?_
            refine wp_region_held_drew (S := (fun W' => Keep Never w107 W' ∧ W'.cell? ⟨w.heap.size, 0, none⟩ = some (.slice Ae ne ce) ∧ W'.cell? ⟨w.heap.size, 1, none⟩ = some (.slice Aj nj cj) ∧ W'.cell? ⟨w.heap.size, 2, none⟩ = some (.slice Ab nb cb) ∧ W'.cell? ⟨w.heap.size, 3, none⟩ = some (.slice Ar nr cr) ∧ W'.cell? ⟨w.heap.size + 1, 0, none⟩ = some (.slice (some ad) n c) ∧ W'.cell? ⟨w.heap.size + 1, 1, none⟩ = some (.int .i64 nx) ∧ W'.cell? ⟨br, 0, none⟩ = some (.int .i64 s1) ∧ W'.cell? ⟨br, 1, none⟩ = some (.int .i64 s2) ∧ W'.cell? ⟨br, 2, none⟩ = some (.int .i64 s3))) (by kernel_rfl) ?_ (fun hHeld => ?_)
            · exact HS2.out _ ((Keep.refl Never w107).drew)
            refine wpAnyH_take (i := 0) (oi := ?_) (v := ?_) ?_ (by kernel_rfl) (by kernel_rfl) (by kernel_rfl) (fun _ _ _ h => h) (Or.inl ⟨?_, ?_⟩) (by assumption) ?_
            rotate_left 2
            · (simp only [List.getElem?_toArray, List.getElem?_cons_zero]; rfl)
            · rfl
            · (intro w hSw; (try dsimp only at hSw); go_simp; (try with_reducible rfl))
            try simp only [Act.put, List.setIfInBounds_toArray, List.set_cons_zero, List.set_cons_succ]
            refine wpAnyH_take (i := 1) (oi := ?_) (v := ?_) ?_ (by kernel_rfl) (by kernel_rfl) (by kernel_rfl) (fun _ _ _ h => h) (Or.inl ⟨?_, ?_⟩) (by assumption) ?_
            rotate_left 2
            · (simp only [List.getElem?_toArray, List.getElem?_cons_succ, List.getElem?_cons_zero]; rfl)
            · rfl
            · (intro w hSw; (try dsimp only at hSw); go_simp; (try with_reducible rfl))
            try simp only [Act.put, List.setIfInBounds_toArray, List.set_cons_zero, List.set_cons_succ]
            refine wpAnyH_take (i := 2) (oi := ?_) (v := ?_) ?_ (by kernel_rfl) (by kernel_rfl) (by kernel_rfl) (fun _ _ _ h => h) (Or.inl ⟨?_, ?_⟩) (by assumption) ?_
            rotate_left 2
            · (simp only [List.getElem?_toArray, List.getElem?_cons_succ, List.getElem?_cons_zero]; rfl)
            · rfl
            · (intro w hSw; (try dsimp only at hSw); go_simp; (try with_reducible rfl))
            try simp only [Act.put, List.setIfInBounds_toArray, List.set_cons_zero, List.set_cons_succ]
            refine wpAnyH_take (i := 3) (oi := ?_) (v := ?_) ?_ (by kernel_rfl) (by kernel_rfl) (by kernel_rfl) (fun _ _ _ h => h) (Or.inl ⟨?_, ?_⟩) (by assumption) ?_
            rotate_left 2
            · (simp only [List.getElem?_toArray, List.getElem?_cons_succ, List.getElem?_cons_zero]; rfl)
            · rfl
            · (intro w hSw; (try dsimp only at hSw); go_simp; (try with_reducible rfl))
            try simp only [Act.put, List.setIfInBounds_toArray, List.set_cons_zero, List.set_cons_succ]
            refine wpAnyH_take (i := 4) (oi := ?_) (v := ?_) ?_ (by kernel_rfl) (by kernel_rfl) (by kernel_rfl) (fun _ _ _ h => h) (Or.inl ⟨?_, ?_⟩) (by assumption) ?_
            rotate_left 2
            · (simp only [List.getElem?_toArray, List.getElem?_cons_succ, List.getElem?_cons_zero]; rfl)
            · rfl
            · (intro w hSw; (try dsimp only at hSw); go_simp; (try with_reducible rfl))
            try simp only [Act.put, List.setIfInBounds_toArray, List.set_cons_zero, List.set_cons_succ]
            refine wpAnyH_take (i := 5) (oi := ?_) (v := ?_) ?_ (by kernel_rfl) (by kernel_rfl) (by kernel_rfl) (fun _ _ _ h => h) (Or.inl ⟨?_, ?_⟩) (by assumption) ?_
            rotate_left 2
            · (simp only [List.getElem?_toArray, List.getElem?_cons_succ, List.getElem?_cons_zero]; rfl)
            · rfl
            · (intro w hSw; (try dsimp only at hSw); go_simp; (try with_reducible rfl))
            try simp only [Act.put, List.setIfInBounds_toArray, List.set_cons_zero, List.set_cons_succ]
            refine wpAnyH_take (i := 6) (oi := ?_) (v := ?_) ?_ (by kernel_rfl) (by kernel_rfl) (by kernel_rfl) (fun _ _ _ h => h) (Or.inl ⟨?_, ?_⟩) (by assumption) ?_
            rotate_left 2
            · (simp only [List.getElem?_toArray, List.getElem?_cons_succ, List.getElem?_cons_zero]; rfl)
            · rfl
            · (intro w hSw; (try dsimp only at hSw); go_simp; (try with_reducible rfl))
            try simp only [Act.put, List.setIfInBounds_toArray, List.set_cons_zero, List.set_cons_succ]
            refine wpAnyH_take (i := 7) (oi := ?_) (v := ?_) ?_ (by kernel_rfl) (by kernel_rfl) (by kernel_rfl) (fun _ _ _ h => h) (Or.inl ⟨?_, ?_⟩) (by assumption) ?_
            rotate_left 2
            · (simp only [List.getElem?_toArray, List.getElem?_cons_succ, List.getElem?_cons_zero]; rfl)
            · rfl
            · (intro w hSw; (try dsimp only at hSw); go_simp; (try with_reducible rfl))
            try simp only [Act.put, List.setIfInBounds_toArray, List.set_cons_zero, List.set_cons_succ]
            refine wpAnyH_take (i := 8) (oi := ?_) (v := ?_) ?_ (by kernel_rfl) (by kernel_rfl) (by kernel_rfl) (fun _ _ _ h => h) (Or.inl ⟨?_, ?_⟩) (by assumption) ?_
            rotate_left 2
            · (simp only [List.getElem?_toArray, List.getElem?_cons_succ, List.getElem?_cons_zero]; rfl)
            · rfl
            · (intro w hSw; (try dsimp only at hSw); go_simp; (try with_reducible rfl))
            try simp only [Act.put, List.setIfInBounds_toArray, List.set_cons_zero, List.set_cons_succ]
            refine wpAnyH_ready (rs := [9]) (by kernel_rfl) (by simp) ?_
            refine AllReadyH.cons (o := ?_) ?_ (fun K hK => ?_) AllReadyH.nil
            rotate_left 1
            · (simp only [List.getElem?_toArray, List.getElem?_cons_succ, List.getElem?_cons_zero]; rfl)
            go_simp
            refine (HX1.out _ hHeld.1).mono ?_; rintro en w131 ⟨rfl, hk3⟩
            (try go_wp2_with fail)
            refine hK.out _ _ ?_ (fun hHeld => ?_)
            · (try dsimp only); exact HS2.out _ (hHeld.1.trans hk3)
            clear hK K
            try simp only [Act.put, List.setIfInBounds_toArray, List.set_cons_zero, List.set_cons_succ]
            refine wpAnyH_take (i := 10) (oi := ?_) (v := ?_) ?_ (by kernel_rfl) (by kernel_rfl) (by kernel_rfl) (fun _ _ _ h => h) (Or.inl ⟨?_, ?_⟩) (by assumption) ?_
            rotate_left 2
            · (simp only [List.getElem?_toArray, List.getElem?_cons_succ, List.getElem?_cons_zero]; rfl)
            · rfl
            · (intro w hSw; (try dsimp only at hSw); go_simp; (try with_reducible rfl))
            try simp only [Act.put, List.setIfInBounds_toArray, List.set_cons_zero, List.set_cons_succ]
            refine wpAnyH_take (i := 11) (oi := ?_) (v := ?_) ?_ (by kernel_rfl) (by kernel_rfl) (by kernel_rfl) (fun _ _ _ h => h) (Or.inl ⟨?_, ?_⟩) (by assumption) ?_
            rotate_left 2
            · (simp only [List.getElem?_toArray, List.getElem?_cons_succ, List.getElem?_cons_zero]; rfl)
            · rfl
            · (intro w hSw; (try dsimp only at hSw); go_simp; (try with_reducible rfl))
            try simp only [Act.put, List.setIfInBounds_toArray, List.set_cons_zero, List.set_cons_succ]
            refine wpAnyH_take (i := 12) (oi := ?_) (v := ?_) ?_ (by kernel_rfl) (by kernel_rfl) (by kernel_rfl) (fun _ _ _ h => h) (Or.inl ⟨?_, ?_⟩) (by assumption) ?_
            rotate_left 2
            · (simp only [List.getElem?_toArray, List.getElem?_cons_succ, List.getElem?_cons_zero]; rfl)
            · rfl
            · (intro w hSw; (try dsimp only at hSw); go_simp; (try with_reducible rfl))
            try simp only [Act.put, List.setIfInBounds_toArray, List.set_cons_zero, List.set_cons_succ]
            refine wpAnyH_take (i := 13) (oi := ?_) (v := ?_) ?_ (by kernel_rfl) (by kernel_rfl) (by kernel_rfl) (fun _ _ _ h => h) (Or.inl ⟨?_, ?_⟩) (by assumption) ?_
            rotate_left 2
            · (simp only [List.getElem?_toArray, List.getElem?_cons_succ, List.getElem?_cons_zero]; rfl)
            · rfl
            · (intro w hSw; (try dsimp only at hSw); go_simp; (try with_reducible rfl))
            try simp only [Act.put, List.setIfInBounds_toArray, List.set_cons_zero, List.set_cons_succ]
            refine wpAnyH_take (i := 14) (oi := ?_) (v := ?_) ?_ (by kernel_rfl) (by kernel_rfl) (by kernel_rfl) (fun _ _ _ h => h) (Or.inl ⟨?_, ?_⟩) (by assumption) ?_
            rotate_left 2
            · (simp only [List.getElem?_toArray, List.getElem?_cons_succ, List.getElem?_cons_zero]; rfl)
            · rfl
            · (intro w hSw; (try dsimp only at hSw); go_simp; (try with_reducible rfl))
            try simp only [Act.put, List.setIfInBounds_toArray, List.set_cons_zero, List.set_cons_succ]
            refine wpAnyH_take (i := 15) (oi := ?_) (v := ?_) ?_ (by kernel_rfl) (by kernel_rfl) (by kernel_rfl) (fun _ _ _ h => h) (Or.inl ⟨?_, ?_⟩) (by assumption) ?_
            rotate_left 2
            · (simp only [List.getElem?_toArray, List.getElem?_cons_succ, List.getElem?_cons_zero]; rfl)
            · rfl
            · (intro w hSw; (try dsimp only at hSw); go_simp; (try with_reducible rfl))
            try simp only [Act.put, List.setIfInBounds_toArray, List.set_cons_zero, List.set_cons_succ]
            refine wpAnyH_take (i := 16) (oi := ?_) (v := ?_) ?_ (by kernel_rfl) (by kernel_rfl) (by kernel_rfl) (fun _ _ _ h => h) (Or.inl ⟨?_, ?_⟩) (by assumption) ?_
            rotate_left 2
            · (simp only [List.getElem?_toArray, List.getElem?_cons_succ, List.getElem?_cons_zero]; rfl)
            · rfl
            · (intro w hSw; (try dsimp only at hSw); go_simp; (try with_reducible rfl))
            try simp only [Act.put, List.setIfInBounds_toArray, List.set_cons_zero, List.set_cons_succ]
            refine wpAnyH_take (i := 17) (oi := ?_) (v := ?_) ?_ (by kernel_rfl) (by kernel_rfl) (by kernel_rfl) (fun _ _ _ h => h) (Or.inl ⟨?_, ?_⟩) (by assumption) ?_
            rotate_left 2
            · (simp only [List.getElem?_toArray, List.getElem?_cons_succ, List.getElem?_cons_zero]; rfl)
            · rfl
            · (intro w hSw; (try dsimp only at hSw); go_simp; (try with_reducible rfl))
            try simp only [Act.put, List.setIfInBounds_toArray, List.set_cons_zero, List.set_cons_succ]
            refine wpAnyH_take (i := 18) (oi := ?_) (v := ?_) ?_ (by kernel_rfl) (by kernel_rfl) (by kernel_rfl) (fun _ _ _ h => h) (Or.inl ⟨?_, ?_⟩) (by assumption) ?_
            rotate_left 2
            · (simp only [List.getElem?_toArray, List.getElem?_cons_succ, List.getElem?_cons_zero]; rfl)
            · rfl
            · (intro w hSw; (try dsimp only at hSw); go_simp; (try with_reducible rfl))
            try simp only [Act.put, List.setIfInBounds_toArray, List.set_cons_zero, List.set_cons_succ]
            refine wpAnyH_take (i := 19) (oi := ?_) (v := ?_) ?_ (by kernel_rfl) (by kernel_rfl) (by kernel_rfl) (fun _ _ _ h => h) (Or.inl ⟨?_, ?_⟩) (by assumption) ?_
            rotate_left 2
            · (simp only [List.getElem?_toArray, List.getElem?_cons_succ, List.getElem?_cons_zero]; rfl)
            · rfl
            · (intro w hSw; (try dsimp only at hSw); go_simp; (try with_reducible rfl))
            try simp only [Act.put, List.setIfInBounds_toArray, List.set_cons_zero, List.set_cons_succ]
            refine wpAnyH_take (i := 20) (oi := ?_) (v := ?_) ?_ (by kernel_rfl) (by kernel_rfl) (by kernel_rfl) (fun _ _ _ h => h) (Or.inl ⟨?_, ?_⟩) (by assumption) ?_
            rotate_left 2
            · (simp only [List.getElem?_toArray, List.getElem?_cons_succ, List.getElem?_cons_zero]; rfl)
            · rfl
            · (intro w hSw; (try dsimp only at hSw); go_simp; (try with_reducible rfl))
            try simp only [Act.put, List.setIfInBounds_toArray, List.set_cons_zero, List.set_cons_succ]
            refine wpAnyH_ready (rs := [21]) (by kernel_rfl) (by simp) ?_
            refine AllReadyH.cons (o := ?_) ?_ (fun K hK => ?_) AllReadyH.nil
            rotate_left 1
            · (simp only [List.getElem?_toArray, List.getElem?_cons_succ, List.getElem?_cons_zero]; rfl)
            go_simp
            refine (HX2.out _ hHeld.1).mono ?_; rintro en w132 ⟨rfl, hk4⟩
            (try go_wp2_with fail)
            refine hK.out _ _ ?_ (fun hHeld => ?_)
            · (try dsimp only); exact HS2.out _ (hHeld.1.trans hk4)
            clear hK K
            try simp only [Act.put, List.setIfInBounds_toArray, List.set_cons_zero, List.set_cons_succ]
            refine wpAnyH_take (i := 22) (oi := ?_) (v := ?_) ?_ (by kernel_rfl) (by kernel_rfl) (by kernel_rfl) (fun _ _ _ h => h) (Or.inl ⟨?_, ?_⟩) (by assumption) ?_
            rotate_left 2
            · (simp only [List.getElem?_toArray, List.getElem?_cons_succ, List.getElem?_cons_zero]; rfl)
            · rfl
            · (intro w hSw; (try dsimp only at hSw); go_simp; (try with_reducible rfl))
            try simp only [Act.put, List.setIfInBounds_toArray, List.set_cons_zero, List.set_cons_succ]
            refine wpAnyH_done (by kernel_rfl) ?_ _
            refine NoPanic.normal ?_
            have hS := hHeld
            have HKe := Lib.hid (HK7.out.trans hS.1)
            clear hS hHeld
            cases mb with
            | true =>
              have HF : Hid (mayI t (l, nx) = false) := Lib.hid (mayI_f (fun h1 h2 h3 h4 h5 => by have h6 := (okI_iff Hsk.out).1 (h5 k (by simp only; have := HN.out; omega)); simp only at h6; rw [HMb.out] at h6; exact absurd h6.2.2.2.2.2 (by decide)))
              go_wp2_with fail
              go_ret
              exact ⟨by rw [HF.out]; rfl, HK1.out.trans HKe.out⟩
            | false =>
              have HZ : Hid (okI t (l, nx) k = true) := Lib.hid ((okI_iff Hsk.out).2 ⟨HG2.out.1, HG2.out.2, HTb.out, HOs.out, HLb.out, HMb.out⟩)
              have HLa : Hid (s3 = lastI l (k + 1)) := Lib.hid (lastI_at Hsk.out).symm
              go_wp2_with fail
              go_roundw
              case measure => simp [intOf]; try omega
              case rel =>
                refine ⟨k + 1, s3, by omega, by go_num, rfl, Lib.hid ⟨HLa.out, HKe.out, fun j hj => ?_⟩⟩
                by_cases e : j = k
                · rw [e]; exact HZ.out
                · exact HH.out.2.2 j (by omega)
    · obtain rfl : k = n := by omega
      have hkz : ¬ (k : Int) < (k : Int) := by omega
      have HF : Hid (mayI t (l, nx) = true) := Lib.hid (mayI_t HCk.out (by simp only; have h1 := HG.out.1; have h2 := HN.out; omega) HG.out.2.1 HG.out.2.2 (fun i hi => HH.out.2.2 i (by simp only at hi; have h2 := HN.out; omega)))
      go_wp2_with fail
      go_ret
      exact ⟨by rw [HF.out]; rfl, HK1.out.trans HH.out.2.1⟩

end Go.Proofs.YtijdkjcjhfebfaaGreat
