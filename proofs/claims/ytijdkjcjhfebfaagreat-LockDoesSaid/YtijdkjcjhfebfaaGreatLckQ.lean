/- Chapter 16, the document: May, Set, Free, Locks, Same. -/
import Derived.Test.YtijdkjcjhfebfaaGreatLckP
namespace Go.Proofs.YtijdkjcjhfebfaaGreat
open Go.RowKit

theorem last_nn {t : Tp} {x : Itr} : ∀ k, k ≤ x.1.length → (∀ j, j < k → okI t x j = true) → 0 ≤ lastI x.1 k
  | 0, _, _ => by show (0 : Int) ≤ 0; omega
  | k + 1, hk, h => by
    have hs : x.1[k]? = some x.1[k] := List.getElem?_eq_getElem (by omega)
    rw [lastI_at hs]
    have h1 := ((okI_iff hs).1 (h k (by omega))).1
    have h2 := last_nn (t := t) (x := x) k (by omega) (fun j hj => h j (by omega))
    omega

set_option maxHeartbeats 16000000 in
set_option maxRecDepth 100000 in
theorem rmay16_any (x : TA) (t : Tp) (B : Nat) (A : Option Addr) (n c : Nat) (l : List Lk) (nx : Int) (w : World) (ht : TpAt w B x t) (hs : TpSmall x t) (hB : B ≤ w.heap.size) (hl : SpAt w B A n c l) (hn : n ≤ 1000000) :
    Calls Tryz.prog 13 #[.agg x.cs, .agg #[.slice A n c, .int .i64 nx]] w fun e w' => e = .returned (.bool (mayI t (l, nx))) ∧ Keep Never w w' := by
  have HCh : Hid (∀ V, Keep Never w V → Calls Tryz.prog 38 #[.agg x.cs] V fun e w' => e = .returned (.int .i64 (checkM t)) ∧ Keep Never V w') := Lib.hid (fun V h => rcheck_any x t B V (ht.keep h) hs (Nat.le_trans hB h.size))
  have HRt : Hid (∀ V r, Keep Never w V → Calls Tryz.prog 32 #[.agg x.cs, .int .i64 r] V (RtRet (rtM t.2.2.2 r) V)) := Lib.hid (fun V r h => rrt_any x t B r V (ht.keep h) hs.r (Nat.le_trans hB h.size))
  have HLd : Hid (∀ V k r, Keep Never w V → k ≤ n → Calls Tryz.prog 33 #[.slice A k c, .int .i64 r] V fun e w' => e = .returned (.bool (lockedB (l.take k) r)) ∧ Keep Never V w') := Lib.hid (fun V k r h hk => there_any2 A k c B (l.take k) r V ((hl.take hk).keep h) (by omega))
  have HMt : Hid (∀ V k r tr, Keep Never w V → k ≤ n → Calls Tryz.prog 34 #[.agg x.cs, .slice A k c, .int .i64 r, .int .i64 tr] V fun e w' => e = .returned (.bool (metB t (l.take k) r tr)) ∧ Keep Never V w') := Lib.hid (fun V k r tr h hk => rmet_any x t B A k c (l.take k) r tr V (ht.keep h) hs (Nat.le_trans hB h.size) ((hl.take hk).keep h) (by omega))
  have HNb := Lib.hid (fun tr V => rtrain_any tr V)
  have HL := Lib.hid hl
  have HN : Hid (l.length = n) := Lib.hid hl.len
  have HCap : Hid (n ≤ c) := Lib.hid hl.cap
  obtain ⟨Ae, ne, ce, Aj, nj, cj, Ab, nb, cb, Ar, nr, cr⟩ := x
  simp only [TA.cs] at HCh HRt HMt ⊢
  clear ht hs hB hl
  obtain ⟨w1, hw1⟩ : ∃ V : World, w.alloc (.cells #[.slice Ae ne ce, .slice Aj nj cj, .slice Ab nb cb, .slice Ar nr cr] 27) = V := ⟨_, rfl⟩
  have zw1 : w1.heap.size = w.heap.size + 1 := by rw [← hw1]; simp
  have kw1 : Keep Never w w1 := by rw [← hw1]; exact (Keep.refl _ _).alloc _
  have bw1 := Blk.new w 27 #[.slice Ae ne ce, .slice Aj nj cj, .slice Ab nb cb, .slice Ar nr cr]
  rw [hw1] at bw1
  obtain ⟨w2, hw2⟩ : ∃ V : World, w1.alloc (.cells #[.slice A n c, .int .i64 nx] 30) = V := ⟨_, rfl⟩
  have kw2 : Keep Never w1 w2 := by rw [← hw2]; exact (Keep.refl _ _).alloc _
  have bw2 := Blk.new w1 30 #[.slice A n c, .int .i64 nx]
  rw [hw2, zw1] at bw2
  have HB1 := Lib.hid (bw1.keep kw2 (fun h => h))
  have HB2 := Lib.hid bw2
  have HK := Lib.hid (kw1.trans kw2)
  clear kw1 kw2 bw1 bw2
  obtain ⟨ck, hck⟩ : ∃ z, checkM t = z := ⟨_, rfl⟩
  have hw := HCh.out w2 HK.out
  rw [hck] at hw
  have HC := Lib.hid hw
  have HCk := Lib.hid hck
  clear HCh hw hck
  have y0 : w2.cell? ⟨w.heap.size, 0, none⟩ = some (.slice Ae ne ce) := HB1.out.cell 0
  have y1 : w2.cell? ⟨w.heap.size, 1, none⟩ = some (.slice Aj nj cj) := HB1.out.cell 1
  have y2 : w2.cell? ⟨w.heap.size, 2, none⟩ = some (.slice Ab nb cb) := HB1.out.cell 2
  have y3 : w2.cell? ⟨w.heap.size, 3, none⟩ = some (.slice Ar nr cr) := HB1.out.cell 3
  have q0 : w2.cell? ⟨w.heap.size + 1, 0, none⟩ = some (.slice A n c) := HB2.out.cell 0
  have q1 : w2.cell? ⟨w.heap.size + 1, 1, none⟩ = some (.int .i64 nx) := HB2.out.cell 1
  go_enter Tryz.func13, Tryz.ntmps13
  go_wp2_with fail
  refine HC.out.mono ?_
  rintro en w101 ⟨rfl, hk1⟩
  have HK1 := Lib.hid (HK.out.trans hk1)
  have Hy1 := Lib.hid (HB1.out.keep hk1 (fun h => h))
  have Hq1 := Lib.hid (HB2.out.keep hk1 (fun h => h))
  clear y0 y1 y2 y3 q0 q1 hk1 HC
  have y0 : w101.cell? ⟨w.heap.size, 0, none⟩ = some (.slice Ae ne ce) := Hy1.out.cell 0
  have y1 : w101.cell? ⟨w.heap.size, 1, none⟩ = some (.slice Aj nj cj) := Hy1.out.cell 1
  have y2 : w101.cell? ⟨w.heap.size, 2, none⟩ = some (.slice Ab nb cb) := Hy1.out.cell 2
  have y3 : w101.cell? ⟨w.heap.size, 3, none⟩ = some (.slice Ar nr cr) := Hy1.out.cell 3
  have q0 : w101.cell? ⟨w.heap.size + 1, 0, none⟩ = some (.slice A n c) := Hq1.out.cell 0
  have q1 : w101.cell? ⟨w.heap.size + 1, 1, none⟩ = some (.int .i64 nx) := Hq1.out.cell 1
  by_cases g0 : ck ≠ 0
  · have t0 : (ck != 0) = true := by simpa using g0
    have HF : Hid (mayI t (l, nx) = false) := Lib.hid (mayI_f (fun h1 h2 h3 h4 h5 => g0 (by rw [← HCk.out]; exact h1)))
    clear g0
    go_wp2_with fail
    go_ret
    exact ⟨by rw [HF.out]; rfl, HK1.out⟩
  have t0 : (ck != 0) = false := by simpa using g0
  have g0 : ck = 0 := by omega
  subst g0
  by_cases g1 : (n : Int) > 24
  · have t1 : decide ((n : Int) > 24) = true := by simpa using g1
    have HF : Hid (mayI t (l, nx) = false) := Lib.hid (mayI_f (fun h1 h2 h3 h4 h5 => by have := HN.out; simp only at h2; omega))
    clear g1
    go_wp2_with fail
    go_ret
    exact ⟨by rw [HF.out]; rfl, HK1.out⟩
  have t1 : decide ((n : Int) > 24) = false := by simpa using g1
  by_cases g2 : nx < 1
  · have t2 : decide (nx < 1) = true := by simpa using g2
    have HF : Hid (mayI t (l, nx) = false) := Lib.hid (mayI_f (fun h1 h2 h3 h4 h5 => by simp only at h3; omega))
    clear g2 g1
    go_wp2_with fail
    go_ret
    exact ⟨by rw [HF.out]; rfl, HK1.out⟩
  have t2 : decide (nx < 1) = false := by simpa using g2
  by_cases g3 : nx > 1099511627776
  · have t3 : decide (nx > 1099511627776) = true := by simpa using g3
    have HF : Hid (mayI t (l, nx) = false) := Lib.hid (mayI_f (fun h1 h2 h3 h4 h5 => by simp only at h4; omega))
    clear g3 g1 g2
    go_wp2_with fail
    go_ret
    exact ⟨by rw [HF.out]; rfl, HK1.out⟩
  have t3 : decide (nx > 1099511627776) = false := by simpa using g3
  have HG : Hid (n ≤ 24 ∧ 1 ≤ nx ∧ nx ≤ 1099511627776) := Lib.hid (by omega)
  clear g1 g2 g3
  go_wp2_with fail
  clear t0 t1 t2 t3
  clear y0 y1 y2 y3 q0 q1
  go_loopw [5] (fun si wr => ∃ k : Nat, k ≤ n ∧ si = .int .i64 k ∧ Hid (Keep Never w101 wr ∧ ∀ j, j < k → okI t (l, nx) j = true)) (fun si _ => n - (intOf si).toNat)
  case atStart => exact ⟨0, by omega, rfl, Lib.hid ⟨Keep.refl _ _, fun j h => by omega⟩⟩
  case round =>
    obtain ⟨k, hk, rfl, HH⟩ := hrel
    have Hqr := Lib.hid (Hq1.out.keep HH.out.1 (fun h => h))
    have q0 : wr.cell? ⟨w.heap.size + 1, 0, none⟩ = some (.slice A n c) := Hqr.out.cell 0
    by_cases h0 : k < n
    · have hki : (k : Int) < (n : Int) := by omega
      obtain ⟨ad, s, hA, _, hsk, c0, c1, c2⟩ := (HL.out.keep (HK1.out.trans HH.out.1)).rd.sp h0
      have HSe : Hid (∀ V (j : Nat) (v : Lk), Keep Never w V → l[j]? = some v → V.cell? ⟨(ad.add (j * 3)).block, (ad.add (j * 3)).off + 2, none⟩ = some (.int .i64 v.2.2)) := Lib.hid (fun V j v h hv => by
        have hj : j < n := by have h1 := (List.getElem?_eq_some_iff.1 hv).1; have h2 := HN.out; omega
        obtain ⟨ad', s', hA', _, hs', _, _, e2⟩ := (HL.out.keep h).rd.sp hj
        rw [hA] at hA'
        injection hA' with hA'
        subst hA'
        rw [hv] at hs'
        injection hs' with hs'
        subst hs'
        exact e2)
      obtain ⟨s1, s2, s3⟩ := s
      simp only at c0 c1 c2
      have Hsk := Lib.hid hsk
      have Hkn : Hid (k ≤ n) := Lib.hid (by omega)
      clear hsk
      subst hA
      obtain ⟨w4, hw4⟩ : ∃ V : World, wr.alloc (.cells #[.int .i64 s1, .int .i64 s2, .int .i64 s3] 63) = V := ⟨_, rfl⟩
      have k4 : Keep Never wr w4 := by rw [← hw4]; exact (Keep.refl _ _).alloc _
      have B4 := Blk.new wr 63 #[.int .i64 s1, .int .i64 s2, .int .i64 s3]
      rw [hw4] at B4
      obtain ⟨br, hbr⟩ : ∃ q, wr.heap.size = q := ⟨_, rfl⟩
      rw [hbr] at B4
      have HB4 := Lib.hid B4
      have HKr := Lib.hid (HH.out.1.trans k4)
      have Hy4 := Lib.hid (Hy1.out.keep HKr.out (fun h => h))
      have Hq4 := Lib.hid (Hq1.out.keep HKr.out (fun h => h))
      clear k4 B4
      obtain ⟨o, ho⟩ : ∃ o, rtM t.2.2.2 s1 = o := ⟨_, rfl⟩
      have hw := HRt.out w4 s1 (HK1.out.trans HKr.out)
      rw [ho] at hw
      obtain ⟨r1, hr1⟩ : ∃ z, (o.getD (0, [], 0, 0)).1 = z := ⟨_, rfl⟩
      obtain ⟨r3, hr3⟩ : ∃ z, (o.getD (0, [], 0, 0)).2.2.1 = z := ⟨_, rfl⟩
      obtain ⟨r4, hr4⟩ : ∃ z, (o.getD (0, [], 0, 0)).2.2.2 = z := ⟨_, rfl⟩
      obtain ⟨os, hos⟩ : ∃ z, o.isSome = z := ⟨_, rfl⟩
      unfold RtRet at hw
      rw [hr1, hr3, hr4, hos] at hw
      have HC := Lib.hid hw
      have HOs : Hid ((rtM t.2.2.2 s1).isSome = os) := Lib.hid (by rw [ho]; exact hos)
      clear hw hr1 hr3 hr4 hos ho
      have y0 : w4.cell? ⟨w.heap.size, 0, none⟩ = some (.slice Ae ne ce) := Hy4.out.cell 0
      have y1 : w4.cell? ⟨w.heap.size, 1, none⟩ = some (.slice Aj nj cj) := Hy4.out.cell 1
      have y2 : w4.cell? ⟨w.heap.size, 2, none⟩ = some (.slice Ab nb cb) := Hy4.out.cell 2
      have y3 : w4.cell? ⟨w.heap.size, 3, none⟩ = some (.slice Ar nr cr) := Hy4.out.cell 3
      have k0 : w4.cell? ⟨br, 0, none⟩ = some (.int .i64 s1) := HB4.out.cell 0
      have k1 : w4.cell? ⟨br, 1, none⟩ = some (.int .i64 s2) := HB4.out.cell 1
      have k2 : w4.cell? ⟨br, 2, none⟩ = some (.int .i64 s3) := HB4.out.cell 2
      go_wp2_with fail
      refine HC.out.mono ?_
      rintro en w121 ⟨A7, n7, c7, rfl, _, hkr⟩
      clear q0 c0 c1 c2 hw4 hbr
      have HK5 := Lib.hid (HKr.out.trans hkr)
      have Hy5 := Lib.hid (Hy4.out.keep hkr (fun h => h))
      have Hq5 := Lib.hid (Hq4.out.keep hkr (fun h => h))
      have Hk5 := Lib.hid (HB4.out.keep hkr (fun h => h))
      clear y0 y1 y2 y3 k0 k1 k2 hkr HC
      obtain ⟨w106, hw106⟩ : ∃ V : World, w121.alloc (.cells #[.int .i64 r1, .slice A7 n7 c7, .int .i64 r3, .int .i64 r4] 57) = V := ⟨_, rfl⟩
      have kx : Keep Never w121 w106 := by rw [← hw106]; exact (Keep.refl _ _).alloc _
      have bx := Blk.new w121 57 #[.int .i64 r1, .slice A7 n7 c7, .int .i64 r3, .int .i64 r4]
      rw [hw106] at bx
      obtain ⟨brt, hbrt⟩ : ∃ q, w121.heap.size = q := ⟨_, rfl⟩
      rw [hbrt] at bx
      have HBx6 := Lib.hid bx
      have HK6 := Lib.hid (HK5.out.trans kx)
      have Hy6 := Lib.hid (Hy5.out.keep kx (fun h => h))
      have Hq6 := Lib.hid (Hq5.out.keep kx (fun h => h))
      have Hk6 := Lib.hid (Hk5.out.keep kx (fun h => h))
      clear kx bx
      obtain ⟨tb, htb⟩ : ∃ z, trainB s2 = z := ⟨_, rfl⟩
      have hw := HNb.out s2 w106
      rw [htb] at hw
      have HC := Lib.hid hw
      have HTb := Lib.hid htb
      clear hw htb
      have k0 : w106.cell? ⟨br, 0, none⟩ = some (.int .i64 s1) := Hk6.out.cell 0
      have k1 : w106.cell? ⟨br, 1, none⟩ = some (.int .i64 s2) := Hk6.out.cell 1
      have k2 : w106.cell? ⟨br, 2, none⟩ = some (.int .i64 s3) := Hk6.out.cell 2
      go_wp2_with fail
      refine HC.out.mono ?_
      rintro en w107 ⟨rfl, hk7⟩
      have HK7 := Lib.hid (HK6.out.trans hk7)
      have Hy7 := Lib.hid (Hy6.out.keep hk7 (fun h => h))
      have Hq7 := Lib.hid (Hq6.out.keep hk7 (fun h => h))
      have Hk7 := Lib.hid (Hk6.out.keep hk7 (fun h => h))
      have Hrt7 := Lib.hid (HBx6.out.keep hk7 (fun h => h))
      clear k0 k1 k2 hk7 HC
      clear hw106 hbrt
      cases os with
      | false =>
        have HF : Hid (mayI t (l, nx) = false) := Lib.hid (mayI_f (fun h1 h2 h3 h4 h5 => by have h6 := (okI_iff Hsk.out).1 (h5 k (by simp only; have := HN.out; omega)); simp only at h6; rw [HOs.out] at h6; exact absurd h6.2.2.2.1 (by decide)))
        go_wp2_with fail
        go_quiet (fail)
        go_wp2_with fail
        go_ret
        exact ⟨by rw [HF.out]; rfl, (HK1.out.trans HK7.out).drewN _⟩
      | true =>
        cases tb with
        | false =>
          have HF : Hid (mayI t (l, nx) = false) := Lib.hid (mayI_f (fun h1 h2 h3 h4 h5 => by have h6 := (okI_iff Hsk.out).1 (h5 k (by simp only; have := HN.out; omega)); simp only at h6; rw [HTb.out] at h6; exact absurd h6.2.2.1 (by decide)))
          go_wp2_with fail
          go_quiet (fail)
          go_wp2_with fail
          go_ret
          exact ⟨by rw [HF.out]; rfl, (HK1.out.trans HK7.out).drewN _⟩
        | true =>
          have q0 : w107.cell? ⟨w.heap.size + 1, 0, none⟩ = some (.slice (some ad) n c) := Hq7.out.cell 0
          have q1 : w107.cell? ⟨w.heap.size + 1, 1, none⟩ = some (.int .i64 nx) := Hq7.out.cell 1
          have k0 : w107.cell? ⟨br, 0, none⟩ = some (.int .i64 s1) := Hk7.out.cell 0
          have k1 : w107.cell? ⟨br, 1, none⟩ = some (.int .i64 s2) := Hk7.out.cell 1
          have k2 : w107.cell? ⟨br, 2, none⟩ = some (.int .i64 s3) := Hk7.out.cell 2
          have HLn : Hid (0 ≤ lastI l k) := Lib.hid (last_nn (x := (l, nx)) k (by simp only; have h1 := HN.out; have h2 := Hkn.out; omega) HH.out.2)
          by_cases g4 : s3 < 1
          · have t4 : decide (s3 < 1) = true := by simpa using g4
            have HF : Hid (mayI t (l, nx) = false) := Lib.hid (mayI_f (fun h1 h2 h3 h4 h5 => by have h6 := (okI_iff Hsk.out).1 (h5 k (by simp only; have := HN.out; omega)); simp only at h6; have := HLn.out; omega))
            clear g4
            go_wp2_with fail
            go_quiet (fail)
            go_wp2_with fail
            go_ret
            exact ⟨by rw [HF.out]; rfl, (HK1.out.trans HK7.out).drewN _⟩
          have t4 : decide (s3 < 1) = false := by simpa using g4
          by_cases g5 : s3 ≥ nx
          · have t5 : decide (s3 ≥ nx) = true := by simpa using g5
            have HF : Hid (mayI t (l, nx) = false) := Lib.hid (mayI_f (fun h1 h2 h3 h4 h5 => by have h6 := (okI_iff Hsk.out).1 (h5 k (by simp only; have := HN.out; omega)); simp only at h6; omega))
            clear g5 g4
            go_wp2_with fail
            go_quiet (fail)
            go_wp2_with fail
            go_ret
            exact ⟨by rw [HF.out]; rfl, (HK1.out.trans HK7.out).drewN _⟩
          have t5 : decide (s3 ≥ nx) = false := by simpa using g5
          cases k with
          | zero =>
            have HG2 : Hid (lastI l 0 < s3 ∧ s3 < nx) := Lib.hid ⟨by show (0 : Int) < s3; omega, by omega⟩
            have t6 : decide ((0 : Int) > 0) = false := by decide
            clear g4 g5
            go_wp2_with fail
            go_quiet (fail)
            clear t4 t5 t6
            obtain ⟨wd, hwd⟩ : ∃ V : World, w107.drewN nq = V := ⟨_, rfl⟩
            rw [hwd]
            have hkd : Keep Never w107 wd := by rw [← hwd]; exact (Keep.refl Never _).drewN _
            clear hwd
            clear q0 q1 k0 k1 k2
            have Hyd := Lib.hid (Hy7.out.keep hkd (fun h => h))
            have Hqd := Lib.hid (Hq7.out.keep hkd (fun h => h))
            have Hkd := Lib.hid (Hk7.out.keep hkd (fun h => h))
            have HKd := Lib.hid (HK7.out.trans hkd)
            clear hkd
            have hq := run_front Tryz.underlying28 Tryz.sizeOf63 (some ad) n c 0 Hkn.out HCap.out
            obtain ⟨lb, hlb⟩ : ∃ z, lockedB (l.take 0) s1 = z := ⟨_, rfl⟩
            have HLb := Lib.hid hlb
            have HX1 := Lib.hid (fun V (h : Keep Never wd V) => HLd.out V 0 s1 (HK1.out.trans (HKd.out.trans h)) Hkn.out)
            rw [hlb] at HX1
            obtain ⟨mb, hmb⟩ : ∃ z, metB t (l.take 0) s1 s2 = z := ⟨_, rfl⟩
            have HMb := Lib.hid hmb
            have HX2 := Lib.hid (fun V (h : Keep Never wd V) => HMt.out V 0 s1 s2 (HK1.out.trans (HKd.out.trans h)) Hkn.out)
            rw [hmb] at HX2
            clear hlb hmb
            have y0 : wd.cell? ⟨w.heap.size, 0, none⟩ = some (.slice Ae ne ce) := Hyd.out.cell 0
            have y1 : wd.cell? ⟨w.heap.size, 1, none⟩ = some (.slice Aj nj cj) := Hyd.out.cell 1
            have y2 : wd.cell? ⟨w.heap.size, 2, none⟩ = some (.slice Ab nb cb) := Hyd.out.cell 2
            have y3 : wd.cell? ⟨w.heap.size, 3, none⟩ = some (.slice Ar nr cr) := Hyd.out.cell 3
            have q0 : wd.cell? ⟨w.heap.size + 1, 0, none⟩ = some (.slice (some ad) n c) := Hqd.out.cell 0
            have q1 : wd.cell? ⟨w.heap.size + 1, 1, none⟩ = some (.int .i64 nx) := Hqd.out.cell 1
            have k0 : wd.cell? ⟨br, 0, none⟩ = some (.int .i64 s1) := Hkd.out.cell 0
            have k1 : wd.cell? ⟨br, 1, none⟩ = some (.int .i64 s2) := Hkd.out.cell 1
            have k2 : wd.cell? ⟨br, 2, none⟩ = some (.int .i64 s3) := Hkd.out.cell 2
            have HS2 : Hid (∀ W', Keep Never wd W' → Keep Never wd W' ∧ W'.cell? ⟨w.heap.size, 0, none⟩ = some (.slice Ae ne ce) ∧ W'.cell? ⟨w.heap.size, 1, none⟩ = some (.slice Aj nj cj) ∧ W'.cell? ⟨w.heap.size, 2, none⟩ = some (.slice Ab nb cb) ∧ W'.cell? ⟨w.heap.size, 3, none⟩ = some (.slice Ar nr cr) ∧ W'.cell? ⟨w.heap.size + 1, 0, none⟩ = some (.slice (some ad) n c) ∧ W'.cell? ⟨w.heap.size + 1, 1, none⟩ = some (.int .i64 nx) ∧ W'.cell? ⟨br, 0, none⟩ = some (.int .i64 s1) ∧ W'.cell? ⟨br, 1, none⟩ = some (.int .i64 s2) ∧ W'.cell? ⟨br, 2, none⟩ = some (.int .i64 s3)) := Lib.hid (fun W' h => ⟨h, keepT h y0, keepT h y1, keepT h y2, keepT h y3, keepT h q0, keepT h q1, keepT h k0, keepT h k1, keepT h k2⟩)
            go_wp2_with fail
            clear y0 y1 y2 y3 q0 q1 k0 k1 k2
            go_region_held3 (fun W' => Keep Never wd W' ∧ W'.cell? ⟨w.heap.size, 0, none⟩ = some (.slice Ae ne ce) ∧ W'.cell? ⟨w.heap.size, 1, none⟩ = some (.slice Aj nj cj) ∧ W'.cell? ⟨w.heap.size, 2, none⟩ = some (.slice Ab nb cb) ∧ W'.cell? ⟨w.heap.size, 3, none⟩ = some (.slice Ar nr cr) ∧ W'.cell? ⟨w.heap.size + 1, 0, none⟩ = some (.slice (some ad) n c) ∧ W'.cell? ⟨w.heap.size + 1, 1, none⟩ = some (.int .i64 nx) ∧ W'.cell? ⟨br, 0, none⟩ = some (.int .i64 s1) ∧ W'.cell? ⟨br, 1, none⟩ = some (.int .i64 s2) ∧ W'.cell? ⟨br, 2, none⟩ = some (.int .i64 s3))
              (first | assumption | exact HS2.out _ ((Keep.refl Never wd).drew) | exact HS2.out _ (Keep.trans (And.left (by assumption)) hk3) | exact HS2.out _ (Keep.trans ((Keep.refl Never wd).drew) hk3))
              (first
                | (go_at_call 33; refine (HX1.out _ (by first | exact And.left (by assumption) | exact (Keep.refl Never wd).drew | exact Keep.refl Never wd)).mono ?_; rintro e w131 ⟨rfl, hk3⟩))
            all_goals
              rename_i hS
              have hke : Keep Never wd w131 := hS.1
              have HS4 : Hid (∀ W', Keep Never w131 W' → Keep Never w131 W' ∧ W'.cell? ⟨w.heap.size, 0, none⟩ = some (.slice Ae ne ce) ∧ W'.cell? ⟨w.heap.size, 1, none⟩ = some (.slice Aj nj cj) ∧ W'.cell? ⟨w.heap.size, 2, none⟩ = some (.slice Ab nb cb) ∧ W'.cell? ⟨w.heap.size, 3, none⟩ = some (.slice Ar nr cr) ∧ W'.cell? ⟨w.heap.size + 1, 0, none⟩ = some (.slice (some ad) n c) ∧ W'.cell? ⟨w.heap.size + 1, 1, none⟩ = some (.int .i64 nx) ∧ W'.cell? ⟨br, 0, none⟩ = some (.int .i64 s1) ∧ W'.cell? ⟨br, 1, none⟩ = some (.int .i64 s2) ∧ W'.cell? ⟨br, 2, none⟩ = some (.int .i64 s3)) := Lib.hid (fun W' h => ⟨h, (HS2.out W' (hke.trans h)).2⟩)
              have HX3 := Lib.hid (fun V (h : Keep Never w131 V) => HX2.out V (hke.trans h))
              clear hS HX1 HX2
              go_wp2_with fail
              go_region_held3 (fun W' => Keep Never w131 W' ∧ W'.cell? ⟨w.heap.size, 0, none⟩ = some (.slice Ae ne ce) ∧ W'.cell? ⟨w.heap.size, 1, none⟩ = some (.slice Aj nj cj) ∧ W'.cell? ⟨w.heap.size, 2, none⟩ = some (.slice Ab nb cb) ∧ W'.cell? ⟨w.heap.size, 3, none⟩ = some (.slice Ar nr cr) ∧ W'.cell? ⟨w.heap.size + 1, 0, none⟩ = some (.slice (some ad) n c) ∧ W'.cell? ⟨w.heap.size + 1, 1, none⟩ = some (.int .i64 nx) ∧ W'.cell? ⟨br, 0, none⟩ = some (.int .i64 s1) ∧ W'.cell? ⟨br, 1, none⟩ = some (.int .i64 s2) ∧ W'.cell? ⟨br, 2, none⟩ = some (.int .i64 s3))
                (first | assumption | exact HS4.out _ ((Keep.refl Never w131).drew) | exact HS4.out _ (Keep.trans (And.left (by assumption)) hk3) | exact HS4.out _ (Keep.trans ((Keep.refl Never w131).drew) hk3))
                (first
                  | (go_at_call 34; refine (HX3.out _ (by first | exact And.left (by assumption) | exact (Keep.refl Never w131).drew | exact Keep.refl Never w131)).mono ?_; rintro e w132 ⟨rfl, hk3⟩))
              all_goals
                rename_i hS
                have HKe := Lib.hid (HKd.out.trans (hke.trans hS.1))
                clear hS hke HS2 HS4 HX3
                cases lb with
                | true =>
                  have HF : Hid (mayI t (l, nx) = false) := Lib.hid (mayI_f (fun h1 h2 h3 h4 h5 => by have h6 := (okI_iff Hsk.out).1 (h5 0 (by simp only; have := HN.out; omega)); simp only at h6; rw [HLb.out] at h6; exact absurd h6.2.2.2.2.1 (by decide)))
                  go_wp2_with fail
                  go_ret
                  exact ⟨by rw [HF.out]; rfl, HK1.out.trans HKe.out⟩
                | false =>
                  cases mb with
                  | true =>
                    have HF : Hid (mayI t (l, nx) = false) := Lib.hid (mayI_f (fun h1 h2 h3 h4 h5 => by have h6 := (okI_iff Hsk.out).1 (h5 0 (by simp only; have := HN.out; omega)); simp only at h6; rw [HMb.out] at h6; exact absurd h6.2.2.2.2.2 (by decide)))
                    go_wp2_with fail
                    go_ret
                    exact ⟨by rw [HF.out]; rfl, HK1.out.trans HKe.out⟩
                  | false =>
                    have HZ : Hid (okI t (l, nx) 0 = true) := Lib.hid ((okI_iff Hsk.out).2 ⟨HG2.out.1, HG2.out.2, HTb.out, HOs.out, HLb.out, HMb.out⟩)
                    go_wp2_with fail
                    refine ⟨⟨0 + 1, by omega, by go_num, Lib.hid ⟨HKe.out, fun j hj => ?_⟩⟩, ?_⟩
                    · by_cases e : j = 0
                      · rw [e]; exact HZ.out
                      · exact HH.out.2 j (by omega)
                    · simp [intOf]; try omega
          | succ m =>
            obtain ⟨v, hv⟩ : ∃ v, l[m]? = some v := ⟨_, List.getElem?_eq_getElem (by have := HN.out; omega)⟩
            have hlv : lastI l (m + 1) = v.2.2 := lastI_at hv
            have d2 := HSe.out w107 m v (HK1.out.trans HK7.out) hv
            obtain ⟨v1, v2, v3⟩ := v
            simp only at hlv d2
            have Hlv := Lib.hid hlv
            have hp : decide (((m + 1 : Nat) : Int) > 0) = true := by first | (simp; done) | (simp; omega)
            have hi1 : (0 : Int) ≤ (m : Int) := by omega
            have hi2 : (m : Int) < (n : Int) := by omega
            have hmw : IntKind.i64.wrap ((m : Int) + 1 - 1) = (m : Int) := by rw [Int.add_sub_cancel]; exact IntWalk.i64_in _ (by have := HG.out.1; omega)
            have hmw2 : IntKind.i64.wrap (m : Int) = (m : Int) := IntWalk.i64_in _ (by have := HG.out.1; omega)
            clear hv hlv
            by_cases g6 : s3 ≤ v3
            · have t6 : decide (s3 ≤ v3) = true := by simpa using g6
              have HF : Hid (mayI t (l, nx) = false) := Lib.hid (mayI_f (fun h1 h2 h3 h4 h5 => by have h6 := (okI_iff Hsk.out).1 (h5 (m + 1) (by simp only; have := HN.out; omega)); simp only at h6; have := Hlv.out; omega))
              clear g4 g5 g6
              go_wp2_with fail
              go_quiet (fail)
              go_wp2_with fail
              go_ret
              exact ⟨by rw [HF.out]; rfl, (HK1.out.trans HK7.out).drewN _⟩
            have t6 : decide (s3 ≤ v3) = false := by simpa using g6
            have HG2 : Hid (lastI l (m + 1) < s3 ∧ s3 < nx) := Lib.hid ⟨by rw [Hlv.out]; omega, by omega⟩
            clear g4 g5 g6
            go_wp2_with fail
            go_quiet (fail)
            clear t4 t5 t6
            obtain ⟨wd, hwd⟩ : ∃ V : World, w107.drewN nq = V := ⟨_, rfl⟩
            rw [hwd]
            have hkd : Keep Never w107 wd := by rw [← hwd]; exact (Keep.refl Never _).drewN _
            clear hwd d2 hp hi1 hi2 hmw hmw2
            clear q0 q1 k0 k1 k2
            have Hyd := Lib.hid (Hy7.out.keep hkd (fun h => h))
            have Hqd := Lib.hid (Hq7.out.keep hkd (fun h => h))
            have Hkd := Lib.hid (Hk7.out.keep hkd (fun h => h))
            have HKd := Lib.hid (HK7.out.trans hkd)
            clear hkd
            have hq := run_front Tryz.underlying28 Tryz.sizeOf63 (some ad) n c (m + 1) Hkn.out HCap.out
            rw [show (((m + 1 : Nat) : Int)) = (m : Int) + 1 from by omega] at hq
            obtain ⟨lb, hlb⟩ : ∃ z, lockedB (l.take (m + 1)) s1 = z := ⟨_, rfl⟩
            have HLb := Lib.hid hlb
            have HX1 := Lib.hid (fun V (h : Keep Never wd V) => HLd.out V (m + 1) s1 (HK1.out.trans (HKd.out.trans h)) Hkn.out)
            rw [hlb] at HX1
            obtain ⟨mb, hmb⟩ : ∃ z, metB t (l.take (m + 1)) s1 s2 = z := ⟨_, rfl⟩
            have HMb := Lib.hid hmb
            have HX2 := Lib.hid (fun V (h : Keep Never wd V) => HMt.out V (m + 1) s1 s2 (HK1.out.trans (HKd.out.trans h)) Hkn.out)
            rw [hmb] at HX2
            clear hlb hmb
            have y0 : wd.cell? ⟨w.heap.size, 0, none⟩ = some (.slice Ae ne ce) := Hyd.out.cell 0
            have y1 : wd.cell? ⟨w.heap.size, 1, none⟩ = some (.slice Aj nj cj) := Hyd.out.cell 1
            have y2 : wd.cell? ⟨w.heap.size, 2, none⟩ = some (.slice Ab nb cb) := Hyd.out.cell 2
            have y3 : wd.cell? ⟨w.heap.size, 3, none⟩ = some (.slice Ar nr cr) := Hyd.out.cell 3
            have q0 : wd.cell? ⟨w.heap.size + 1, 0, none⟩ = some (.slice (some ad) n c) := Hqd.out.cell 0
            have q1 : wd.cell? ⟨w.heap.size + 1, 1, none⟩ = some (.int .i64 nx) := Hqd.out.cell 1
            have k0 : wd.cell? ⟨br, 0, none⟩ = some (.int .i64 s1) := Hkd.out.cell 0
            have k1 : wd.cell? ⟨br, 1, none⟩ = some (.int .i64 s2) := Hkd.out.cell 1
            have k2 : wd.cell? ⟨br, 2, none⟩ = some (.int .i64 s3) := Hkd.out.cell 2
            have HS2 : Hid (∀ W', Keep Never wd W' → Keep Never wd W' ∧ W'.cell? ⟨w.heap.size, 0, none⟩ = some (.slice Ae ne ce) ∧ W'.cell? ⟨w.heap.size, 1, none⟩ = some (.slice Aj nj cj) ∧ W'.cell? ⟨w.heap.size, 2, none⟩ = some (.slice Ab nb cb) ∧ W'.cell? ⟨w.heap.size, 3, none⟩ = some (.slice Ar nr cr) ∧ W'.cell? ⟨w.heap.size + 1, 0, none⟩ = some (.slice (some ad) n c) ∧ W'.cell? ⟨w.heap.size + 1, 1, none⟩ = some (.int .i64 nx) ∧ W'.cell? ⟨br, 0, none⟩ = some (.int .i64 s1) ∧ W'.cell? ⟨br, 1, none⟩ = some (.int .i64 s2) ∧ W'.cell? ⟨br, 2, none⟩ = some (.int .i64 s3)) := Lib.hid (fun W' h => ⟨h, keepT h y0, keepT h y1, keepT h y2, keepT h y3, keepT h q0, keepT h q1, keepT h k0, keepT h k1, keepT h k2⟩)
            go_wp2_with fail
            clear y0 y1 y2 y3 q0 q1 k0 k1 k2
            go_region_held3 (fun W' => Keep Never wd W' ∧ W'.cell? ⟨w.heap.size, 0, none⟩ = some (.slice Ae ne ce) ∧ W'.cell? ⟨w.heap.size, 1, none⟩ = some (.slice Aj nj cj) ∧ W'.cell? ⟨w.heap.size, 2, none⟩ = some (.slice Ab nb cb) ∧ W'.cell? ⟨w.heap.size, 3, none⟩ = some (.slice Ar nr cr) ∧ W'.cell? ⟨w.heap.size + 1, 0, none⟩ = some (.slice (some ad) n c) ∧ W'.cell? ⟨w.heap.size + 1, 1, none⟩ = some (.int .i64 nx) ∧ W'.cell? ⟨br, 0, none⟩ = some (.int .i64 s1) ∧ W'.cell? ⟨br, 1, none⟩ = some (.int .i64 s2) ∧ W'.cell? ⟨br, 2, none⟩ = some (.int .i64 s3))
              (first | assumption | exact HS2.out _ ((Keep.refl Never wd).drew) | exact HS2.out _ (Keep.trans (And.left (by assumption)) hk3) | exact HS2.out _ (Keep.trans ((Keep.refl Never wd).drew) hk3))
              (first
                | (go_at_call 33; refine (HX1.out _ (by first | exact And.left (by assumption) | exact (Keep.refl Never wd).drew | exact Keep.refl Never wd)).mono ?_; rintro e w131 ⟨rfl, hk3⟩))
            all_goals
              rename_i hS
              have hke : Keep Never wd w131 := hS.1
              have HS4 : Hid (∀ W', Keep Never w131 W' → Keep Never w131 W' ∧ W'.cell? ⟨w.heap.size, 0, none⟩ = some (.slice Ae ne ce) ∧ W'.cell? ⟨w.heap.size, 1, none⟩ = some (.slice Aj nj cj) ∧ W'.cell? ⟨w.heap.size, 2, none⟩ = some (.slice Ab nb cb) ∧ W'.cell? ⟨w.heap.size, 3, none⟩ = some (.slice Ar nr cr) ∧ W'.cell? ⟨w.heap.size + 1, 0, none⟩ = some (.slice (some ad) n c) ∧ W'.cell? ⟨w.heap.size + 1, 1, none⟩ = some (.int .i64 nx) ∧ W'.cell? ⟨br, 0, none⟩ = some (.int .i64 s1) ∧ W'.cell? ⟨br, 1, none⟩ = some (.int .i64 s2) ∧ W'.cell? ⟨br, 2, none⟩ = some (.int .i64 s3)) := Lib.hid (fun W' h => ⟨h, (HS2.out W' (hke.trans h)).2⟩)
              have HX3 := Lib.hid (fun V (h : Keep Never w131 V) => HX2.out V (hke.trans h))
              clear hS HX1 HX2
              go_wp2_with fail
              go_region_held3 (fun W' => Keep Never w131 W' ∧ W'.cell? ⟨w.heap.size, 0, none⟩ = some (.slice Ae ne ce) ∧ W'.cell? ⟨w.heap.size, 1, none⟩ = some (.slice Aj nj cj) ∧ W'.cell? ⟨w.heap.size, 2, none⟩ = some (.slice Ab nb cb) ∧ W'.cell? ⟨w.heap.size, 3, none⟩ = some (.slice Ar nr cr) ∧ W'.cell? ⟨w.heap.size + 1, 0, none⟩ = some (.slice (some ad) n c) ∧ W'.cell? ⟨w.heap.size + 1, 1, none⟩ = some (.int .i64 nx) ∧ W'.cell? ⟨br, 0, none⟩ = some (.int .i64 s1) ∧ W'.cell? ⟨br, 1, none⟩ = some (.int .i64 s2) ∧ W'.cell? ⟨br, 2, none⟩ = some (.int .i64 s3))
                (first | assumption | exact HS4.out _ ((Keep.refl Never w131).drew) | exact HS4.out _ (Keep.trans (And.left (by assumption)) hk3) | exact HS4.out _ (Keep.trans ((Keep.refl Never w131).drew) hk3))
                (first
                  | (go_at_call 34; refine (HX3.out _ (by first | exact And.left (by assumption) | exact (Keep.refl Never w131).drew | exact Keep.refl Never w131)).mono ?_; rintro e w132 ⟨rfl, hk3⟩))
              all_goals
                rename_i hS
                have HKe := Lib.hid (HKd.out.trans (hke.trans hS.1))
                clear hS hke HS2 HS4 HX3
                cases lb with
                | true =>
                  have HF : Hid (mayI t (l, nx) = false) := Lib.hid (mayI_f (fun h1 h2 h3 h4 h5 => by have h6 := (okI_iff Hsk.out).1 (h5 (m + 1) (by simp only; have := HN.out; omega)); simp only at h6; rw [HLb.out] at h6; exact absurd h6.2.2.2.2.1 (by decide)))
                  go_wp2_with fail
                  go_ret
                  exact ⟨by rw [HF.out]; rfl, HK1.out.trans HKe.out⟩
                | false =>
                  cases mb with
                  | true =>
                    have HF : Hid (mayI t (l, nx) = false) := Lib.hid (mayI_f (fun h1 h2 h3 h4 h5 => by have h6 := (okI_iff Hsk.out).1 (h5 (m + 1) (by simp only; have := HN.out; omega)); simp only at h6; rw [HMb.out] at h6; exact absurd h6.2.2.2.2.2 (by decide)))
                    go_wp2_with fail
                    go_ret
                    exact ⟨by rw [HF.out]; rfl, HK1.out.trans HKe.out⟩
                  | false =>
                    have HZ : Hid (okI t (l, nx) (m + 1) = true) := Lib.hid ((okI_iff Hsk.out).2 ⟨HG2.out.1, HG2.out.2, HTb.out, HOs.out, HLb.out, HMb.out⟩)
                    go_wp2_with fail
                    refine ⟨⟨m + 1 + 1, by omega, by go_num, Lib.hid ⟨HKe.out, fun j hj => ?_⟩⟩, ?_⟩
                    · by_cases e : j = m + 1
                      · rw [e]; exact HZ.out
                      · exact HH.out.2 j (by omega)
                    · simp [intOf]; try omega

    · obtain rfl : k = n := by omega
      have hkz : ¬ (k : Int) < (k : Int) := by omega
      have HF : Hid (mayI t (l, nx) = true) := Lib.hid (mayI_t HCk.out (by simp only; have h1 := HG.out.1; have h2 := HN.out; omega) HG.out.2.1 HG.out.2.2 (fun i hi => HH.out.2 i (by simp only at hi; have h2 := HN.out; omega)))
      go_wp2_with fail
      go_ret
      exact ⟨by rw [HF.out]; rfl, HK1.out.trans HH.out.1⟩

end Go.Proofs.YtijdkjcjhfebfaaGreat
