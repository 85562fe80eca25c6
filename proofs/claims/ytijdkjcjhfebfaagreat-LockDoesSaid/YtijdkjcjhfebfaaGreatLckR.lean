/- Chapter 16, the document: Set, Free, Locks, Same. -/
import Derived.Test.YtijdkjcjhfebfaaGreatLckQ
namespace Go.Proofs.YtijdkjcjhfebfaaGreat
open Go.RowKit

set_option maxHeartbeats 2000000 in
set_option maxRecDepth 100000 in
theorem locks16_any (l m : List Sp) (A A' : Option Addr) (n n' c c' B B' : Nat) (w : World) (hr : Rd w B 3 A n (spCells l)) (hr' : Rd w B' 3 A' n' (spCells m)) (hn : n ≤ 100000000000) (hn' : n' ≤ 100000000000) :
    Calls Tryz.prog 19 #[.slice A n c, .slice A' n' c'] w fun e w' => e = .returned (.bool (decide (l = m))) ∧ Keep Never w w' := by
  have Hl := Lib.hid hr.sp_len
  have Hm := Lib.hid hr'.sp_len
  have Hr := Lib.hid hr
  have Hr' := Lib.hid hr'
  clear hr hr'
  by_cases hne : n = n'
  · subst hne
    go_enter Tryz.func19, Tryz.ntmps19
    go_wp2_with fail
    go_loopw [5] (fun i wr => ∃ k : Nat, k ≤ n ∧ i = .int .i64 k ∧ Hid (Keep Never w wr ∧ l.take k = m.take k)) (fun i _ => n - (intOf i).toNat)
    case atStart => exact ⟨0, by omega, rfl, Keep.refl _ _, by simp⟩
    case round =>
      obtain ⟨k, hk, rfl, HH⟩ := hrel
      by_cases h0 : k < n
      · obtain ⟨ad, x, hA, _, hx, c0, c1, c2⟩ := (Hr.out.keep HH.out.1 (fun _ h => h.elim)).sp h0
        obtain ⟨ad', y, hA', _, hy, d0, d1, d2⟩ := (Hr'.out.keep HH.out.1 (fun _ h => h.elim)).sp h0
        subst hA
        subst hA'
        obtain ⟨x1, x2, x3⟩ := x
        obtain ⟨y1, y2, y3⟩ := y
        simp only at c0 c1 c2 d0 d1 d2
        have HX := Lib.hid hx
        have HY := Lib.hid hy
        have hki : (k : Int) < (n : Int) := by omega
        have hk00 : (0 : Int) ≤ (k : Int) := by omega
        clear hx hy
        have htx : Hid (l.take (k + 1) = l.take k ++ [(x1, x2, x3)]) := by
          obtain ⟨h2, h3⟩ := List.getElem?_eq_some_iff.1 HX.out
          show _ = _
          rw [List.take_succ_eq_append_getElem h2, h3]
        have hty : Hid (m.take (k + 1) = m.take k ++ [(y1, y2, y3)]) := by
          obtain ⟨h2, h3⟩ := List.getElem?_eq_some_iff.1 HY.out
          show _ = _
          rw [List.take_succ_eq_append_getElem h2, h3]
        by_cases hxy : x1 = y1 ∧ x2 = y2 ∧ x3 = y3
        · obtain ⟨rfl, rfl, rfl⟩ := hxy
          go_wp2_with fail
          go_quiet (fail)
          go_wp2_with fail
          go_roundw
          case rel => exact ⟨k + 1, by omega, by go_num, HH.out.1.drewN _, by rw [htx.out, hty.out, HH.out.2]⟩
          case measure => simp [intOf]; try omega
        · have hb : (x1 == y1) = false ∨ ((x1 == y1) = true ∧ (x2 == y2) = false) ∨ ((x1 == y1) = true ∧ (x2 == y2) = true ∧ (x3 == y3) = false) := by
            by_cases h : x1 = y1
            · right
              by_cases h2 : x2 = y2
              · right; exact ⟨by simpa using h, by simpa using h2, by simp; exact fun h' => hxy ⟨h, h2, h'⟩⟩
              · left; exact ⟨by simpa using h, by simpa using h2⟩
            · exact .inl (by simpa using h)
          have hne : Hid (decide (l = m) = false) := by
            show _ = _
            rw [decide_eq_false_iff_not]
            intro e
            have h1 := HX.out
            rw [e, HY.out] at h1
            injection h1 with h1
            injection h1 with h1 h2
            injection h2 with h2 h3
            exact hxy ⟨h1.symm, h2.symm, h3.symm⟩
          clear hxy
          rcases hb with hb | ⟨hb, hb2⟩ | ⟨hb, hb2, hb3⟩
          all_goals
            go_wp2_with fail
            go_quiet (fail)
            go_wp2_with fail
            go_ret
            exact ⟨by rw [hne.out]; rfl, HH.out.1.drewN _⟩
      · obtain rfl : k = n := by omega
        have he : Hid (decide (l = m) = true) := by
          show _ = _
          rw [decide_eq_true_iff]
          have := HH.out.2
          rwa [List.take_of_length_le (by rw [Hl.out]; exact Nat.le_refl _), List.take_of_length_le (by rw [Hm.out]; exact Nat.le_refl _)] at this
        go_wp2_with fail
        go_ret
        exact ⟨by rw [he.out]; rfl, HH.out.1⟩
  · have he : Hid (decide (l = m) = false) := by
      show _ = _
      rw [decide_eq_false_iff_not]
      intro e
      have h1 := Hl.out
      rw [e, Hm.out] at h1
      exact hne h1.symm
    have hb : ((n : Int) == (n' : Int)) = false := by simp; omega
    clear hne
    go_enter Tryz.func19, Tryz.ntmps19
    go_wp2_with fail
    go_ret
    exact ⟨by rw [he.out]; rfl, Keep.refl _ _⟩


set_option maxHeartbeats 4000000 in
set_option maxRecDepth 100000 in
theorem rsame16_any (A A2 : Option Addr) (n c n2 c2 B B2 : Nat) (l l2 : List Lk) (nx nx2 : Int) (w : World) (h1 : SpAt w B A n c l) (h2 : SpAt w B2 A2 n2 c2 l2) (hn : n ≤ 1000000) (hn2 : n2 ≤ 1000000) :
    Calls Tryz.prog 9 #[.agg #[.slice A n c, .int .i64 nx], .agg #[.slice A2 n2 c2, .int .i64 nx2]] w fun e w' => e = .returned (.bool (decide (l = l2) && decide (nx = nx2))) ∧ Keep Never w w' := by
  have HC : Hid (∀ V, Keep Never w V → Calls Tryz.prog 19 #[.slice A n c, .slice A2 n2 c2] V fun e w' => e = .returned (.bool (decide (l = l2))) ∧ Keep Never V w') := Lib.hid (fun V h => locks16_any l l2 A A2 n n2 c c2 B B2 V (h1.keep h).rd (h2.keep h).rd (by omega) (by omega))
  clear h1 h2
  obtain ⟨w1, hw1⟩ : ∃ V : World, w.alloc (.cells #[.slice A n c, .int .i64 nx] 30) = V := ⟨_, rfl⟩
  have zw1 : w1.heap.size = w.heap.size + 1 := by rw [← hw1]; simp
  have kw1 : Keep Never w w1 := by rw [← hw1]; exact (Keep.refl _ _).alloc _
  have bw1 := Blk.new w 30 #[.slice A n c, .int .i64 nx]
  rw [hw1] at bw1
  obtain ⟨w2, hw2⟩ : ∃ V : World, w1.alloc (.cells #[.slice A2 n2 c2, .int .i64 nx2] 30) = V := ⟨_, rfl⟩
  have kw2 : Keep Never w1 w2 := by rw [← hw2]; exact (Keep.refl _ _).alloc _
  have bw2 := Blk.new w1 30 #[.slice A2 n2 c2, .int .i64 nx2]
  rw [hw2, zw1] at bw2
  have HB1 := Lib.hid (bw1.keep kw2 (fun h => h))
  have HB2 := Lib.hid bw2
  have HK := Lib.hid (kw1.trans kw2)
  have p0 : w2.cell? ⟨w.heap.size, 0, none⟩ = some (.slice A n c) := HB1.out.cell 0
  have p1 : w2.cell? ⟨w.heap.size, 1, none⟩ = some (.int .i64 nx) := HB1.out.cell 1
  have q0 : w2.cell? ⟨w.heap.size + 1, 0, none⟩ = some (.slice A2 n2 c2) := HB2.out.cell 0
  have q1 : w2.cell? ⟨w.heap.size + 1, 1, none⟩ = some (.int .i64 nx2) := HB2.out.cell 1
  clear kw1 kw2 bw1 bw2
  have HC2 := Lib.hid (HC.out w2 HK.out)
  clear HC
  go_enter Tryz.func9, Tryz.ntmps9
  go_wp2_with fail
  refine HC2.out.mono ?_
  rintro e w3 ⟨rfl, hk3⟩
  have HK3 := Lib.hid (HK.out.trans hk3)
  have p1 := keepT hk3 p1
  have q1 := keepT hk3 q1
  clear hk3 p0 q0 hw1 hw2 zw1 HC2
  obtain ⟨b, hb⟩ : ∃ z, decide (l = l2) = z := ⟨_, rfl⟩
  rw [hb]
  have HBd := Lib.hid hb
  clear hb
  cases b with
  | false =>
    go_wp2_with fail
    go_ret
    exact ⟨by rw [HBd.out]; rfl, HK3.out⟩
  | true =>
    by_cases g : nx = nx2
    · have t0 : (nx == nx2) = true := by simpa using g
      have HG : Hid (decide (nx = nx2) = true) := Lib.hid (decide_eq_true g)
      clear g
      go_wp2_with fail
      go_ret
      exact ⟨by rw [HBd.out, HG.out]; rfl, HK3.out⟩
    · have t0 : (nx == nx2) = false := by simpa using g
      have HG : Hid (decide (nx = nx2) = false) := Lib.hid (decide_eq_false g)
      clear g
      go_wp2_with fail
      go_ret
      exact ⟨by rw [HBd.out, HG.out]; rfl, HK3.out⟩

set_option maxHeartbeats 16000000 in
set_option maxRecDepth 100000 in
theorem rset16_any (x : TA) (t : Tp) (B : Nat) (A : Option Addr) (n c : Nat) (l : List Lk) (nx route train : Int) (w : World) (ht : TpAt w B x t) (hs : TpSmall x t) (hB : B ≤ w.heap.size) (hl : SpAt w B A n c l) (hn : n ≤ 1000000) :
    Calls Tryz.prog 8 #[.agg x.cs, .agg #[.slice A n c, .int .i64 nx], .int .i64 route, .int .i64 train] w (SetRet (setI t (l, nx) route train) w) := by
  have HMy : Hid (∀ V, Keep Never w V → Calls Tryz.prog 13 #[.agg x.cs, .agg #[.slice A n c, .int .i64 nx]] V fun e w' => e = .returned (.bool (mayI t (l, nx))) ∧ Keep Never V w') := Lib.hid (fun V h => rmay16_any x t B A n c l nx V (ht.keep h) hs (Nat.le_trans hB h.size) (hl.keep h) hn)
  have HRt : Hid (∀ V r, Keep Never w V → Calls Tryz.prog 32 #[.agg x.cs, .int .i64 r] V (RtRet (rtM t.2.2.2 r) V)) := Lib.hid (fun V r h => rrt_any x t B r V (ht.keep h) hs.r (Nat.le_trans hB h.size))
  have HLd : Hid (∀ V r, Keep Never w V → Calls Tryz.prog 33 #[.slice A n c, .int .i64 r] V fun e w' => e = .returned (.bool (lockedB l r)) ∧ Keep Never V w') := Lib.hid (fun V r h => there_any2 A n c B l r V (hl.keep h) hn)
  have HMt : Hid (∀ V r tr, Keep Never w V → Calls Tryz.prog 34 #[.agg x.cs, .slice A n c, .int .i64 r, .int .i64 tr] V fun e w' => e = .returned (.bool (metB t l r tr)) ∧ Keep Never V w') := Lib.hid (fun V r tr h => rmet_any x t B A n c l r tr V (ht.keep h) hs (Nat.le_trans hB h.size) (hl.keep h) hn)
  have HNb := Lib.hid (fun tr V => rtrain_any tr V)
  have HL := Lib.hid hl
  have HN : Hid (l.length = n) := Lib.hid hl.len
  obtain ⟨Ae, ne, ce, Aj, nj, cj, Ab, nb, cb, Ar, nr, cr⟩ := x
  simp only [TA.cs] at HMy HRt HMt ⊢
  clear ht hs hl
  obtain ⟨w1, hw1⟩ : ∃ V : World, w.alloc (.cells #[.slice Ae ne ce, .slice Aj nj cj, .slice Ab nb cb, .slice Ar nr cr] 27) = V := ⟨_, rfl⟩
  have zw1 : w1.heap.size = w.heap.size + 1 := by rw [← hw1]; simp
  have kw1 : Keep Never w w1 := by rw [← hw1]; exact (Keep.refl _ _).alloc _
  have bw1 := Blk.new w 27 #[.slice Ae ne ce, .slice Aj nj cj, .slice Ab nb cb, .slice Ar nr cr]
  rw [hw1] at bw1
  obtain ⟨w2, hw2⟩ : ∃ V : World, w1.alloc (.cells #[.slice A n c, .int .i64 nx] 30) = V := ⟨_, rfl⟩
  have zw2 : w2.heap.size = w.heap.size + 1 + 1 := by rw [← hw2]; simp [zw1]
  have kw2 : Keep Never w1 w2 := by rw [← hw2]; exact (Keep.refl _ _).alloc _
  have bw2 := Blk.new w1 30 #[.slice A n c, .int .i64 nx]
  rw [hw2, zw1] at bw2
  obtain ⟨w3, hw3⟩ : ∃ V : World, w2.alloc (.cells #[.slice none 0 0, .int .i64 0] 30) = V := ⟨_, rfl⟩
  have kw3 : Keep Never w2 w3 := by rw [← hw3]; exact (Keep.refl _ _).alloc _
  have bw3 := Blk.new w2 30 #[.slice none 0 0, .int .i64 0]
  rw [hw3, zw2] at bw3
  have HB1 := Lib.hid ((bw1.keep kw2 (fun h => h)).keep kw3 (fun h => h))
  have HB2 := Lib.hid (bw2.keep kw3 (fun h => h))
  have HB3 := Lib.hid bw3
  have HK := Lib.hid ((kw1.trans kw2).trans kw3)
  clear kw1 kw2 kw3 bw1 bw2 bw3
  obtain ⟨mi, hmi⟩ : ∃ z, mayI t (l, nx) = z := ⟨_, rfl⟩
  have hw := HMy.out w3 HK.out
  rw [hmi] at hw
  have HC := Lib.hid hw
  have HMi := Lib.hid hmi
  clear HMy hw hmi
  have y0 : w3.cell? ⟨w.heap.size, 0, none⟩ = some (.slice Ae ne ce) := HB1.out.cell 0
  have y1 : w3.cell? ⟨w.heap.size, 1, none⟩ = some (.slice Aj nj cj) := HB1.out.cell 1
  have y2 : w3.cell? ⟨w.heap.size, 2, none⟩ = some (.slice Ab nb cb) := HB1.out.cell 2
  have y3 : w3.cell? ⟨w.heap.size, 3, none⟩ = some (.slice Ar nr cr) := HB1.out.cell 3
  have q0 : w3.cell? ⟨w.heap.size + 1, 0, none⟩ = some (.slice A n c) := HB2.out.cell 0
  have q1 : w3.cell? ⟨w.heap.size + 1, 1, none⟩ = some (.int .i64 nx) := HB2.out.cell 1
  go_enter Tryz.func8, Tryz.ntmps8
  go_wp2_with fail
  refine HC.out.mono ?_
  rintro en w101 ⟨rfl, hk1⟩
  have HK1 := Lib.hid (HK.out.trans hk1)
  have Hy1 := Lib.hid (HB1.out.keep hk1 (fun h => h))
  have Hq1 := Lib.hid (HB2.out.keep hk1 (fun h => h))
  have Hr1 := Lib.hid (HB3.out.keep hk1 (fun h => h))
  clear y0 y1 y2 y3 q0 q1 hk1 HC
  clear hw1 hw2 hw3 zw1 zw2
  obtain ⟨tb, htb⟩ : ∃ z, trainB train = z := ⟨_, rfl⟩
  have hw := HNb.out train w101
  rw [htb] at hw
  have HC := Lib.hid hw
  have HTb := Lib.hid htb
  clear hw htb
  go_wp2_with fail
  refine HC.out.mono ?_
  rintro en w102 ⟨rfl, hk2⟩
  have HK2 := Lib.hid (HK1.out.trans hk2)
  have Hy2 := Lib.hid (Hy1.out.keep hk2 (fun h => h))
  have Hq2 := Lib.hid (Hq1.out.keep hk2 (fun h => h))
  have Hr2 := Lib.hid (Hr1.out.keep hk2 (fun h => h))
  clear hk2 HC
  cases mi with
  | false =>
    have HF : Hid (setI t (l, nx) route train = (noI, 0, 1)) := Lib.hid (by unfold setI; rw [if_neg (by rw [HMi.out]; simp)])
    have r0 : w102.cell? ⟨w.heap.size + 1 + 1, 0, none⟩ = some (.slice none 0 0) := Hr2.out.cell 0
    have rf0 := Hr2.out.frozen 0
    have r1 : w102.cell? ⟨w.heap.size + 1 + 1, 1, none⟩ = some (.int .i64 0) := Hr2.out.cell 1
    have rf1 := Hr2.out.frozen 1
    have HBz := Lib.hid (put2_blk Hr2.out (.slice none 0 0) (.int .i64 0))
    have HKz := Lib.hid (put2_keep HK2.out (b := w.heap.size + 1 + 1) (.inr (by omega)) (.slice none 0 0) (.int .i64 0))
    go_wp2_with fail
    (try simp only [Exit.inBlock, Exit.then])
    refine bodyPost_ret (it_results3 rfl HBz.out _ rfl) rfl ⟨none, 0, 0, by rw [HF.out]; rfl, Lib.hid (by rw [HF.out]; rfl), nilOwn (by rw [HF.out]; rfl), HKz.out⟩
  | true =>
    cases tb with
    | false =>
      have HF : Hid (setI t (l, nx) route train = (noI, 0, 1)) := Lib.hid (by unfold setI; rw [if_neg (by rw [HTb.out]; simp)])
      have r0 : w102.cell? ⟨w.heap.size + 1 + 1, 0, none⟩ = some (.slice none 0 0) := Hr2.out.cell 0
      have rf0 := Hr2.out.frozen 0
      have r1 : w102.cell? ⟨w.heap.size + 1 + 1, 1, none⟩ = some (.int .i64 0) := Hr2.out.cell 1
      have rf1 := Hr2.out.frozen 1
      have HBz := Lib.hid (put2_blk Hr2.out (.slice none 0 0) (.int .i64 0))
      have HKz := Lib.hid (put2_keep HK2.out (b := w.heap.size + 1 + 1) (.inr (by omega)) (.slice none 0 0) (.int .i64 0))
      go_wp2_with fail
      (try simp only [Exit.inBlock, Exit.then])
      refine bodyPost_ret (it_results3 rfl HBz.out _ rfl) rfl ⟨none, 0, 0, by rw [HF.out]; rfl, Lib.hid (by rw [HF.out]; rfl), nilOwn (by rw [HF.out]; rfl), HKz.out⟩
    | true =>
      have HP1 : Hid (mayI t (l, nx) = true ∧ trainB train = true) := Lib.hid ⟨HMi.out, HTb.out⟩
      obtain ⟨o, ho⟩ : ∃ o, rtM t.2.2.2 route = o := ⟨_, rfl⟩
      have hw := HRt.out w102 route HK2.out
      rw [ho] at hw
      obtain ⟨r1, hr1⟩ : ∃ z, (o.getD (0, [], 0, 0)).1 = z := ⟨_, rfl⟩
      obtain ⟨r3, hr3⟩ : ∃ z, (o.getD (0, [], 0, 0)).2.2.1 = z := ⟨_, rfl⟩
      obtain ⟨r4, hr4⟩ : ∃ z, (o.getD (0, [], 0, 0)).2.2.2 = z := ⟨_, rfl⟩
      obtain ⟨os, hos⟩ : ∃ z, o.isSome = z := ⟨_, rfl⟩
      unfold RtRet at hw
      rw [hr1, hr3, hr4, hos] at hw
      have HC := Lib.hid hw
      have HOs : Hid ((rtM t.2.2.2 route).isSome = os) := Lib.hid (by rw [ho]; exact hos)
      clear hw hr1 hr3 hr4 hos ho HRt
      have y0 : w102.cell? ⟨w.heap.size, 0, none⟩ = some (.slice Ae ne ce) := Hy2.out.cell 0
      have y1 : w102.cell? ⟨w.heap.size, 1, none⟩ = some (.slice Aj nj cj) := Hy2.out.cell 1
      have y2 : w102.cell? ⟨w.heap.size, 2, none⟩ = some (.slice Ab nb cb) := Hy2.out.cell 2
      have y3 : w102.cell? ⟨w.heap.size, 3, none⟩ = some (.slice Ar nr cr) := Hy2.out.cell 3
      go_wp2_with fail
      refine HC.out.mono ?_
      rintro en w121 ⟨A7, n7, c7, rfl, _, hkr⟩
      have HK3 := Lib.hid (HK2.out.trans hkr)
      have Hy3 := Lib.hid (Hy2.out.keep hkr (fun h => h))
      have Hq3 := Lib.hid (Hq2.out.keep hkr (fun h => h))
      have Hr3 := Lib.hid (Hr2.out.keep hkr (fun h => h))
      clear y0 y1 y2 y3 hkr HC
      obtain ⟨w104, hw104⟩ : ∃ V : World, w121.alloc (.cells #[.int .i64 r1, .slice A7 n7 c7, .int .i64 r3, .int .i64 r4] 57) = V := ⟨_, rfl⟩
      have kx : Keep Never w121 w104 := by rw [← hw104]; exact (Keep.refl _ _).alloc _
      have bx := Blk.new w121 57 #[.int .i64 r1, .slice A7 n7 c7, .int .i64 r3, .int .i64 r4]
      rw [hw104] at bx
      obtain ⟨brt, hbrt⟩ : ∃ q, w121.heap.size = q := ⟨_, rfl⟩
      rw [hbrt] at bx
      have HBx4 := Lib.hid bx
      have HK4 := Lib.hid (HK3.out.trans kx)
      have Hy4 := Lib.hid (Hy3.out.keep kx (fun h => h))
      have Hq4 := Lib.hid (Hq3.out.keep kx (fun h => h))
      have Hr4 := Lib.hid (Hr3.out.keep kx (fun h => h))
      clear kx bx
      cases os with
      | false =>
        have HF : Hid (setI t (l, nx) route train = (noI, 0, 4)) := Lib.hid (by unfold setI; rw [if_pos HP1.out, if_neg (by rw [HOs.out]; simp)])
        have r0 : w104.cell? ⟨w.heap.size + 1 + 1, 0, none⟩ = some (.slice none 0 0) := Hr4.out.cell 0
        have rf0 := Hr4.out.frozen 0
        have r1 : w104.cell? ⟨w.heap.size + 1 + 1, 1, none⟩ = some (.int .i64 0) := Hr4.out.cell 1
        have rf1 := Hr4.out.frozen 1
        have HBz := Lib.hid (put2_blk Hr4.out (.slice none 0 0) (.int .i64 0))
        have HKz := Lib.hid (put2_keep HK4.out (b := w.heap.size + 1 + 1) (.inr (by omega)) (.slice none 0 0) (.int .i64 0))
        go_wp2_with fail
        (try simp only [Exit.inBlock, Exit.then])
        refine bodyPost_ret (it_results3 rfl HBz.out _ rfl) rfl ⟨none, 0, 0, by rw [HF.out]; rfl, Lib.hid (by rw [HF.out]; rfl), nilOwn (by rw [HF.out]; rfl), HKz.out⟩
      | true =>
        obtain ⟨lb, hlb⟩ : ∃ z, lockedB l route = z := ⟨_, rfl⟩
        have hw := HLd.out w104 route HK4.out
        rw [hlb] at hw
        have HC := Lib.hid hw
        have HLb := Lib.hid hlb
        clear hw hlb HLd
        have q0 : w104.cell? ⟨w.heap.size + 1, 0, none⟩ = some (.slice A n c) := Hq4.out.cell 0
        have q1 : w104.cell? ⟨w.heap.size + 1, 1, none⟩ = some (.int .i64 nx) := Hq4.out.cell 1
        go_wp2_with fail
        refine HC.out.mono ?_
        rintro en w105 ⟨rfl, hk5⟩
        have HK5 := Lib.hid (HK4.out.trans hk5)
        have Hy5 := Lib.hid (Hy4.out.keep hk5 (fun h => h))
        have Hq5 := Lib.hid (Hq4.out.keep hk5 (fun h => h))
        have Hr5 := Lib.hid (Hr4.out.keep hk5 (fun h => h))
        have Hrt5 := Lib.hid (HBx4.out.keep hk5 (fun h => h))
        clear q0 q1 hk5 HC
        clear hw104 hbrt
        cases lb with
        | true =>
          have HF : Hid (setI t (l, nx) route train = (noI, 0, 5)) := Lib.hid (by unfold setI; rw [if_pos HP1.out, if_pos HOs.out, if_pos HLb.out])
          have r0 : w105.cell? ⟨w.heap.size + 1 + 1, 0, none⟩ = some (.slice none 0 0) := Hr5.out.cell 0
          have rf0 := Hr5.out.frozen 0
          have r1 : w105.cell? ⟨w.heap.size + 1 + 1, 1, none⟩ = some (.int .i64 0) := Hr5.out.cell 1
          have rf1 := Hr5.out.frozen 1
          have HBz := Lib.hid (put2_blk Hr5.out (.slice none 0 0) (.int .i64 0))
          have HKz := Lib.hid (put2_keep HK5.out (b := w.heap.size + 1 + 1) (.inr (by omega)) (.slice none 0 0) (.int .i64 0))
          go_wp2_with fail
          (try simp only [Exit.inBlock, Exit.then])
          refine bodyPost_ret (it_results3 rfl HBz.out _ rfl) rfl ⟨none, 0, 0, by rw [HF.out]; rfl, Lib.hid (by rw [HF.out]; rfl), nilOwn (by rw [HF.out]; rfl), HKz.out⟩
        | false =>
          obtain ⟨mb, hmb⟩ : ∃ z, metB t l route train = z := ⟨_, rfl⟩
          have hw := HMt.out w105 route train HK5.out
          rw [hmb] at hw
          have HC := Lib.hid hw
          have HMb := Lib.hid hmb
          clear hw hmb HMt
          have y0 : w105.cell? ⟨w.heap.size, 0, none⟩ = some (.slice Ae ne ce) := Hy5.out.cell 0
          have y1 : w105.cell? ⟨w.heap.size, 1, none⟩ = some (.slice Aj nj cj) := Hy5.out.cell 1
          have y2 : w105.cell? ⟨w.heap.size, 2, none⟩ = some (.slice Ab nb cb) := Hy5.out.cell 2
          have y3 : w105.cell? ⟨w.heap.size, 3, none⟩ = some (.slice Ar nr cr) := Hy5.out.cell 3
          have q0 : w105.cell? ⟨w.heap.size + 1, 0, none⟩ = some (.slice A n c) := Hq5.out.cell 0
          have q1 : w105.cell? ⟨w.heap.size + 1, 1, none⟩ = some (.int .i64 nx) := Hq5.out.cell 1
          go_wp2_with fail
          refine HC.out.mono ?_
          rintro en w106 ⟨rfl, hk6⟩
          have HK6 := Lib.hid (HK5.out.trans hk6)
          have Hy6 := Lib.hid (Hy5.out.keep hk6 (fun h => h))
          have Hq6 := Lib.hid (Hq5.out.keep hk6 (fun h => h))
          have Hr6 := Lib.hid (Hr5.out.keep hk6 (fun h => h))
          have Hrt6 := Lib.hid (Hrt5.out.keep hk6 (fun h => h))
          clear y0 y1 y2 y3 q0 q1 hk6 HC
          cases mb with
          | true =>
            have HF : Hid (setI t (l, nx) route train = (noI, 0, 160)) := Lib.hid (by unfold setI; rw [if_pos HP1.out, if_pos HOs.out, if_neg (by rw [HLb.out]; simp), if_pos HMb.out])
            have r0 : w106.cell? ⟨w.heap.size + 1 + 1, 0, none⟩ = some (.slice none 0 0) := Hr6.out.cell 0
            have rf0 := Hr6.out.frozen 0
            have r1 : w106.cell? ⟨w.heap.size + 1 + 1, 1, none⟩ = some (.int .i64 0) := Hr6.out.cell 1
            have rf1 := Hr6.out.frozen 1
            have HBz := Lib.hid (put2_blk Hr6.out (.slice none 0 0) (.int .i64 0))
            have HKz := Lib.hid (put2_keep HK6.out (b := w.heap.size + 1 + 1) (.inr (by omega)) (.slice none 0 0) (.int .i64 0))
            go_wp2_with fail
            (try simp only [Exit.inBlock, Exit.then])
            refine bodyPost_ret (it_results3 rfl HBz.out _ rfl) rfl ⟨none, 0, 0, by rw [HF.out]; rfl, Lib.hid (by rw [HF.out]; rfl), nilOwn (by rw [HF.out]; rfl), HKz.out⟩
          | false =>
            by_cases g0 : n = 24
            · have t0 : ((n : Int) == 24) = true := by simp; omega
              have q0 : w106.cell? ⟨w.heap.size + 1, 0, none⟩ = some (.slice A n c) := Hq6.out.cell 0
              have q1 : w106.cell? ⟨w.heap.size + 1, 1, none⟩ = some (.int .i64 nx) := Hq6.out.cell 1
              have Hg := Lib.hid g0
              clear g0
              have HF : Hid (setI t (l, nx) route train = (noI, 0, 3)) := Lib.hid (by unfold setI; rw [if_pos HP1.out, if_pos HOs.out, if_neg (by rw [HLb.out]; simp), if_neg (by rw [HMb.out]; simp), if_pos (.inl (by show l.length = 24; have h1 := HN.out; have h2 := Hg.out; omega))])
              have r0 : w106.cell? ⟨w.heap.size + 1 + 1, 0, none⟩ = some (.slice none 0 0) := Hr6.out.cell 0
              have rf0 := Hr6.out.frozen 0
              have r1 : w106.cell? ⟨w.heap.size + 1 + 1, 1, none⟩ = some (.int .i64 0) := Hr6.out.cell 1
              have rf1 := Hr6.out.frozen 1
              have HBz := Lib.hid (put2_blk Hr6.out (.slice none 0 0) (.int .i64 0))
              have HKz := Lib.hid (put2_keep HK6.out (b := w.heap.size + 1 + 1) (.inr (by omega)) (.slice none 0 0) (.int .i64 0))
              go_wp2_with fail
              (try simp only [Exit.inBlock, Exit.then])
              refine bodyPost_ret (it_results3 rfl HBz.out _ rfl) rfl ⟨none, 0, 0, by rw [HF.out]; rfl, Lib.hid (by rw [HF.out]; rfl), nilOwn (by rw [HF.out]; rfl), HKz.out⟩
            have t0 : ((n : Int) == 24) = false := by simp; omega
            by_cases g1 : nx = 1099511627776
            · have t1 : (nx == 1099511627776) = true := by simpa using g1
              have q0 : w106.cell? ⟨w.heap.size + 1, 0, none⟩ = some (.slice A n c) := Hq6.out.cell 0
              have q1 : w106.cell? ⟨w.heap.size + 1, 1, none⟩ = some (.int .i64 nx) := Hq6.out.cell 1
              have Hg := Lib.hid g1
              clear g0 g1
              have HF : Hid (setI t (l, nx) route train = (noI, 0, 3)) := Lib.hid (by unfold setI; rw [if_pos HP1.out, if_pos HOs.out, if_neg (by rw [HLb.out]; simp), if_neg (by rw [HMb.out]; simp), if_pos (.inr Hg.out)])
              have r0 : w106.cell? ⟨w.heap.size + 1 + 1, 0, none⟩ = some (.slice none 0 0) := Hr6.out.cell 0
              have rf0 := Hr6.out.frozen 0
              have r1 : w106.cell? ⟨w.heap.size + 1 + 1, 1, none⟩ = some (.int .i64 0) := Hr6.out.cell 1
              have rf1 := Hr6.out.frozen 1
              have HBz := Lib.hid (put2_blk Hr6.out (.slice none 0 0) (.int .i64 0))
              have HKz := Lib.hid (put2_keep HK6.out (b := w.heap.size + 1 + 1) (.inr (by omega)) (.slice none 0 0) (.int .i64 0))
              go_wp2_with fail
              (try simp only [Exit.inBlock, Exit.then])
              refine bodyPost_ret (it_results3 rfl HBz.out _ rfl) rfl ⟨none, 0, 0, by rw [HF.out]; rfl, Lib.hid (by rw [HF.out]; rfl), nilOwn (by rw [HF.out]; rfl), HKz.out⟩
            have t1 : (nx == 1099511627776) = false := by simpa using g1
            have HF : Hid (setI t (l, nx) route train = ((l ++ [(route, train, nx)], nx + 1), nx, 0)) := Lib.hid (by unfold setI; rw [if_pos HP1.out, if_pos HOs.out, if_neg (by rw [HLb.out]; simp), if_neg (by rw [HMb.out]; simp), if_neg (by rintro (h | h); exact g0 (by have h1 := HN.out; simp only at h; omega); exact g1 h)])
            have hx4 : nx < 4611686018427387904 := by have h1 := (mayI_of HMi.out).hi; simp only at h1; omega
            have hx5 : 1 ≤ nx := (mayI_of HMi.out).lo
            have hwn : IntKind.i64.wrap (nx + 1) = nx + 1 := IntWalk.i64_in _ (by omega)
            have hwn2 : wrap64 (nx + 1) = nx + 1 := by have := hwn; rwa [IntWalk.i64_left] at this
            have hn24 : n ≤ 24 := by have h1 := (mayI_of HMi.out).len; have h2 := HN.out; simp only at h1; omega
            clear g0 g1 hx4 hx5
            have q0 : w106.cell? ⟨w.heap.size + 1, 0, none⟩ = some (.slice A n c) := Hq6.out.cell 0
            have q1 : w106.cell? ⟨w.heap.size + 1, 1, none⟩ = some (.int .i64 nx) := Hq6.out.cell 1
            have HRl := Lib.hid (HL.out.keep HK6.out).rd
            go_upto_region 15 with (at_builtin; refine wpList_app _ rfl _ (.tmp 60) _ rfl elemLk w106.heap.size rfl (Own.nil _ _ _ _) _ (A' := A) (m := n) (c' := c) (news := spCells l) (by go_simp) HRl.out (spCells_one _) (by omega) (by unfold maxLen; omega) (Nat.le_refl _) ?_
                                    intro A8 c8 w8 hown hk8 hrow8
                                    rw [Nat.zero_add, List.nil_append] at hown
                                    have HO8 := Lib.hid hown
                                    have hk8' : Keep Never w106 w8 := hk8.mono (fun i _ h => by obtain ⟨ad, h1, _⟩ := h; cases h1)
                                    have HK8 := Lib.hid (HK6.out.trans hk8')
                                    have Hq8 := Lib.hid (Hq6.out.keep hk8' (fun h => h))
                                    have Hr8 := Lib.hid (Hr6.out.keep hk8' (fun h => h))
                                    have HZ8 := Lib.hid hk8'.size
                                    clear hown hk8 hk8' hrow8)
            clear q0 q1 t0 t1
            (try rw [Nat.zero_add])
            have q0 : w8.cell? ⟨w.heap.size + 1, 0, none⟩ = some (.slice A n c) := Hq8.out.cell 0
            have q1 : w8.cell? ⟨w.heap.size + 1, 1, none⟩ = some (.int .i64 nx) := Hq8.out.cell 1
            have hz8 := HZ8.out
            go_upto_region 16 with (at_builtin; refine wpList_app _ rfl (.tmp 62) (.tmp 68) _ rfl elemLk w106.heap.size (A := A8) (n := n) (c := c8) (by go_simp) (HO8.out.alloc _) _ (A' := some ⟨_, 0, none⟩) (m := 1) (c' := 1) (news := [.int .i64 route, .int .i64 train, .int .i64 nx]) (by go_simp) (Rd.of_blk (n := 1) (cs := [.int .i64 route, .int .i64 train, .int .i64 nx]) (Blk.new _ _ _) rfl) (by simp [Value.oneCell']) (by omega) (by unfold maxLen; omega) (by simp; omega) ?_
                                    intro A6 c6 w6 hown hk6 hrow6
                                    have HO6 := Lib.hid hown
                                    have hka : Keep (InRow A8) w8 w6 := ((Keep.refl (InRow A8) w8).alloc _).trans hk6
                                    have HKw6 : Hid (Keep Never w w6) := Lib.hid (HK8.out.then_ hka (fun i hi h => by have h1 := (HO8.out.row h).1; have h2 := HK6.out.size; omega))
                                    have Hq6 := Lib.hid (Hq8.out.keep hka (fun h => HO8.out.ne_blk Hq8.out (by decide) _ h rfl))
                                    have Hr6 := Lib.hid (Hr8.out.keep hka (fun h => HO8.out.ne_blk Hr8.out (by decide) _ h rfl))
                                    clear hown hk6 hrow6 hka)
            clear q0 q1
            have q1 : w6.cell? ⟨w.heap.size + 1, 1, none⟩ = some (.int .i64 nx) := Hq6.out.cell 1
            have r0 : w6.cell? ⟨w.heap.size + 1 + 1, 0, none⟩ = some (.slice none 0 0) := Hr6.out.cell 0
            have r1 : w6.cell? ⟨w.heap.size + 1 + 1, 1, none⟩ = some (.int .i64 0) := Hr6.out.cell 1
            have rf0 := Hr6.out.frozen 0
            have rf1 := Hr6.out.frozen 1
            have HBz := Lib.hid (put2_blk Hr6.out (.slice A6 (n + 1) c6) (.int .i64 (nx + 1))).drew
            have HOz := Lib.hid (HO6.out.keep (put2_keep (Keep.refl (fun i => i = w.heap.size + 1 + 1) w6) (b := w.heap.size + 1 + 1) (.inl rfl) (.slice A6 (n + 1) c6) (.int .i64 (nx + 1))) (HO6.out.ne_blk Hr6.out (by decide))).drew
            have HKz := Lib.hid (put2_keep HKw6.out (b := w.heap.size + 1 + 1) (.inr (by omega)) (.slice A6 (n + 1) c6) (.int .i64 (nx + 1))).drew
            go_region_law (fail)
            all_goals
              go_wp2_with fail
              (try rw [hwn2])
              (try rw [hwn])
              (try simp only [Exit.inBlock, Exit.then])
              refine bodyPost_ret (it_results3 rfl HBz.out _ rfl) rfl ⟨A6, n + 1, c6, by rw [HF.out]; rfl, Lib.hid (by rw [HF.out]; simp [HN.out]), ?_, HKz.out⟩
              rw [HF.out]
              show Own _ _ _ _ _ _ _ (spCells (l ++ [(route, train, nx)]))
              rw [spCells_app]
              exact HOz.out.less HK6.out.size

set_option maxHeartbeats 16000000 in
set_option maxRecDepth 100000 in
theorem rfree16_any (x : TA) (t : Tp) (B : Nat) (A : Option Addr) (n c : Nat) (l : List Lk) (nx no : Int) (w : World) (ht : TpAt w B x t) (hs : TpSmall x t) (hB : B ≤ w.heap.size) (hl : SpAt w B A n c l) (hn : n ≤ 1000000) :
    Calls Tryz.prog 11 #[.agg x.cs, .agg #[.slice A n c, .int .i64 nx], .int .i64 no] w (FreeRet (freeI t (l, nx) no) w) := by
  have HMy : Hid (∀ V, Keep Never w V → Calls Tryz.prog 13 #[.agg x.cs, .agg #[.slice A n c, .int .i64 nx]] V fun e w' => e = .returned (.bool (mayI t (l, nx))) ∧ Keep Never V w') := Lib.hid (fun V h => rmay16_any x t B A n c l nx V (ht.keep h) hs (Nat.le_trans hB h.size) (hl.keep h) hn)
  have HL := Lib.hid hl
  have HN : Hid (l.length = n) := Lib.hid hl.len
  obtain ⟨Ae, ne, ce, Aj, nj, cj, Ab, nb, cb, Ar, nr, cr⟩ := x
  simp only [TA.cs] at HMy ⊢
  clear ht hs hl
  obtain ⟨w1, hw1⟩ : ∃ V : World, w.alloc (.cells #[.slice Ae ne ce, .slice Aj nj cj, .slice Ab nb cb, .slice Ar nr cr] 27) = V := ⟨_, rfl⟩
  have zw1 : w1.heap.size = w.heap.size + 1 := by rw [← hw1]; simp
  have kw1 : Keep Never w w1 := by rw [← hw1]; exact (Keep.refl _ _).alloc _
  have bw1 := Blk.new w 27 #[.slice Ae ne ce, .slice Aj nj cj, .slice Ab nb cb, .slice Ar nr cr]
  rw [hw1] at bw1
  obtain ⟨w2, hw2⟩ : ∃ V : World, w1.alloc (.cells #[.slice A n c, .int .i64 nx] 30) = V := ⟨_, rfl⟩
  have zw2 : w2.heap.size = w.heap.size + 1 + 1 := by rw [← hw2]; simp [zw1]
  have kw2 : Keep Never w1 w2 := by rw [← hw2]; exact (Keep.refl _ _).alloc _
  have bw2 := Blk.new w1 30 #[.slice A n c, .int .i64 nx]
  rw [hw2, zw1] at bw2
  obtain ⟨w3, hw3⟩ : ∃ V : World, w2.alloc (.cells #[.slice none 0 0, .int .i64 0] 30) = V := ⟨_, rfl⟩
  have kw3 : Keep Never w2 w3 := by rw [← hw3]; exact (Keep.refl _ _).alloc _
  have bw3 := Blk.new w2 30 #[.slice none 0 0, .int .i64 0]
  rw [hw3, zw2] at bw3
  have HB1 := Lib.hid ((bw1.keep kw2 (fun h => h)).keep kw3 (fun h => h))
  have HB2 := Lib.hid (bw2.keep kw3 (fun h => h))
  have HB3 := Lib.hid bw3
  have HK := Lib.hid ((kw1.trans kw2).trans kw3)
  clear kw1 kw2 kw3 bw1 bw2 bw3
  obtain ⟨mi, hmi⟩ : ∃ z, mayI t (l, nx) = z := ⟨_, rfl⟩
  have hw := HMy.out w3 HK.out
  rw [hmi] at hw
  have HC := Lib.hid hw
  have HMi := Lib.hid hmi
  clear HMy hw hmi
  have y0 : w3.cell? ⟨w.heap.size, 0, none⟩ = some (.slice Ae ne ce) := HB1.out.cell 0
  have y1 : w3.cell? ⟨w.heap.size, 1, none⟩ = some (.slice Aj nj cj) := HB1.out.cell 1
  have y2 : w3.cell? ⟨w.heap.size, 2, none⟩ = some (.slice Ab nb cb) := HB1.out.cell 2
  have y3 : w3.cell? ⟨w.heap.size, 3, none⟩ = some (.slice Ar nr cr) := HB1.out.cell 3
  have q0 : w3.cell? ⟨w.heap.size + 1, 0, none⟩ = some (.slice A n c) := HB2.out.cell 0
  have q1 : w3.cell? ⟨w.heap.size + 1, 1, none⟩ = some (.int .i64 nx) := HB2.out.cell 1
  go_enter Tryz.func11, Tryz.ntmps11
  go_wp2_with fail
  refine HC.out.mono ?_
  rintro en w101 ⟨rfl, hk1⟩
  have HK1 := Lib.hid (HK.out.trans hk1)
  have Hy1 := Lib.hid (HB1.out.keep hk1 (fun h => h))
  have Hq1 := Lib.hid (HB2.out.keep hk1 (fun h => h))
  have Hr1 := Lib.hid (HB3.out.keep hk1 (fun h => h))
  clear y0 y1 y2 y3 q0 q1 hk1 HC
  clear hw1 hw2 hw3 zw1 zw2
  cases mi with
  | false =>
    have HF : Hid (freeI t (l, nx) no = (noI, 1)) := Lib.hid (by unfold freeI; rw [if_neg (by rw [HMi.out]; simp)])
    have r0 : w101.cell? ⟨w.heap.size + 1 + 1, 0, none⟩ = some (.slice none 0 0) := Hr1.out.cell 0
    have rf0 := Hr1.out.frozen 0
    have r1 : w101.cell? ⟨w.heap.size + 1 + 1, 1, none⟩ = some (.int .i64 0) := Hr1.out.cell 1
    have rf1 := Hr1.out.frozen 1
    have HBz := Lib.hid (put2_blk Hr1.out (.slice none 0 0) (.int .i64 0))
    have HKz := Lib.hid (put2_keep HK1.out (b := w.heap.size + 1 + 1) (.inr (by omega)) (.slice none 0 0) (.int .i64 0))
    go_wp2_with fail
    (try simp only [Exit.inBlock, Exit.then])
    refine bodyPost_ret (it_results2 rfl HBz.out _ rfl) rfl ⟨none, 0, 0, by rw [HF.out]; rfl, Lib.hid (by rw [HF.out]; rfl), nilOwn (by rw [HF.out]; rfl), HKz.out⟩
  | true =>
    go_wp2_with fail
    go_loopw [9, 10] (fun so si wr => ∃ (k no8 co : Nat) (Ao : Option Addr), k ≤ n ∧ si = .int .i64 k ∧ so = .slice Ao no8 co ∧ no8 ≤ k ∧ Hid (no8 = (leftI (l.take k) no).length ∧ Own wr w101.heap.size 63 3 Ao no8 co (spCells (leftI (l.take k) no)) ∧ Keep Never w101 wr)) (fun _ si _ => n - (intOf si).toNat)
    case atStart => exact ⟨0, 0, 0, none, by omega, rfl, rfl, by omega, Lib.hid ⟨by simp [leftI], by simpa [leftI, spCells_nil] using Own.nil _ _ _ _, Keep.refl _ _⟩⟩
    case round =>
      obtain ⟨k, no8, co, Ao, hk, rfl, rfl, hno, HH⟩ := hrel
      have HKr := Lib.hid HH.out.2.2
      have Hqr := Lib.hid (Hq1.out.keep HKr.out (fun h => h))
      have q0 : wr.cell? ⟨w.heap.size + 1, 0, none⟩ = some (.slice A n c) := Hqr.out.cell 0
      have HO := Lib.hid HH.out.2.1
      have HNo := Lib.hid HH.out.1
      have hz : w101.heap.size ≤ wr.heap.size := HKr.out.size
      clear HH
      by_cases h0 : k < n
      · have hki : (k : Int) < (n : Int) := by omega
        obtain ⟨ad, s, hA, _, hs, c0, c1, c2⟩ := (HL.out.keep (HK1.out.trans HKr.out)).rd.sp h0
        subst hA
        have htk : Hid (l.take (k + 1) = l.take k ++ [s]) := Lib.hid (by
          obtain ⟨h2, h3⟩ := List.getElem?_eq_some_iff.1 hs
          rw [List.take_succ_eq_append_getElem h2, h3])
        clear hs
        obtain ⟨s1, s2, s3⟩ := s
        simp only at c0 c1 c2
        by_cases g : s3 = no
        · have t0 : (s3 != no) = false := by simpa using g
          have hf : Hid (leftI (l.take (k + 1)) no = leftI (l.take k) no) := Lib.hid (by unfold leftI; rw [htk.out, List.filter_append]; simp [g])
          clear g
          go_wp2_with fail
          refine ⟨⟨k + 1, no8, co, Ao, by omega, by go_num, rfl, by omega, Lib.hid ⟨by rw [hf.out]; exact HNo.out, by rw [hf.out]; exact HO.out, HKr.out⟩⟩, ?_⟩
          simp [intOf]; try omega
        · have t0 : (s3 != no) = true := by simpa using g
          have hf : Hid (leftI (l.take (k + 1)) no = leftI (l.take k) no ++ [(s1, s2, s3)]) := Lib.hid (by unfold leftI; rw [htk.out, List.filter_append]; simp [g])
          clear g
          go_wp2_with (at_builtin; refine wpList_app _ rfl (.tmp 32) (.tmp 38) _ rfl elemLk w101.heap.size (A := Ao) (n := no8) (c := co) (by go_simp) (HO.out.alloc _) _ (A' := some ⟨_, 0, none⟩) (m := 1) (c' := 1) (news := [.int .i64 s1, .int .i64 s2, .int .i64 s3]) (by go_simp) (Rd.of_blk (n := 1) (cs := [.int .i64 s1, .int .i64 s2, .int .i64 s3]) (Blk.new _ _ _) rfl) (by simp [Value.oneCell']) (by omega) (by unfold maxLen; omega) (by simp; omega) ?_
                       intro A6 c6 w6 hown hk6 hrow6
                       have HO6 := Lib.hid hown
                       have HK6 := Lib.hid hk6
                       clear hown hk6 hrow6)
          refine ⟨⟨k + 1, no8 + 1, c6, A6, by omega, by go_num, rfl, by omega, Lib.hid ⟨by rw [hf.out, List.length_append, ← HNo.out]; rfl, by rw [hf.out, spCells_app]; exact HO6.out, (HKr.out.alloc _).then_ HK6.out (fun i hi h => by have := (HO.out.row h).1; omega)⟩⟩, ?_⟩
          simp [intOf]; try omega
      · obtain rfl : k = n := by omega
        have hki : ¬ (k : Int) < (k : Int) := by omega
        have HTk : Hid (l.take k = l) := Lib.hid (List.take_of_length_le (by rw [HN.out]; exact Nat.le_refl _))
        rw [HTk.out] at HNo HO
        have HKz0 := Lib.hid (HK1.out.trans HKr.out)
        have Hrr := Lib.hid (Hr1.out.keep HKr.out (fun h => h))
        by_cases g0 : no8 = k
        · have t0 : ((no8 : Int) == (k : Int)) = true := by simp; omega
          have Hg := Lib.hid g0
          clear g0
          have HF : Hid (freeI t (l, nx) no = (noI, 4)) := Lib.hid (by unfold freeI; rw [if_pos HMi.out, if_pos (by have h1 := HNo.out; have h2 := HN.out; have h3 := Hg.out; show (leftI l no).length = l.length; omega)])
          have r0 : wr.cell? ⟨w.heap.size + 1 + 1, 0, none⟩ = some (.slice none 0 0) := Hrr.out.cell 0
          have rf0 := Hrr.out.frozen 0
          have r1 : wr.cell? ⟨w.heap.size + 1 + 1, 1, none⟩ = some (.int .i64 0) := Hrr.out.cell 1
          have rf1 := Hrr.out.frozen 1
          have HBz := Lib.hid (put2_blk Hrr.out (.slice none 0 0) (.int .i64 0))
          have HKz := Lib.hid (put2_keep HKz0.out (b := w.heap.size + 1 + 1) (.inr (by omega)) (.slice none 0 0) (.int .i64 0))
          go_wp2_with fail
          (try simp only [Exit.inBlock, Exit.then])
          refine bodyPost_ret (it_results2 rfl HBz.out _ rfl) rfl ⟨none, 0, 0, by rw [HF.out]; rfl, Lib.hid (by rw [HF.out]; rfl), nilOwn (by rw [HF.out]; rfl), HKz.out⟩
        have t0 : ((no8 : Int) == (k : Int)) = false := by simp; omega
        have HF : Hid (freeI t (l, nx) no = ((leftI l no, nx), 0)) := Lib.hid (by unfold freeI; rw [if_pos HMi.out, if_neg (by intro h3; have h1 := HNo.out; have h2 := HN.out; simp only at h3; exact g0 (by omega))])
        clear g0
        have q1 : wr.cell? ⟨w.heap.size + 1, 1, none⟩ = some (.int .i64 nx) := Hqr.out.cell 1
        have r0 : wr.cell? ⟨w.heap.size + 1 + 1, 0, none⟩ = some (.slice none 0 0) := Hrr.out.cell 0
        have rf0 := Hrr.out.frozen 0
        have r1 : wr.cell? ⟨w.heap.size + 1 + 1, 1, none⟩ = some (.int .i64 0) := Hrr.out.cell 1
        have rf1 := Hrr.out.frozen 1
        have HBz := Lib.hid (put2_blk Hrr.out (.slice Ao no8 co) (.int .i64 nx))
        have HOz := Lib.hid (HO.out.keep (put2_keep (Keep.refl (fun i => i = w.heap.size + 1 + 1) wr) (b := w.heap.size + 1 + 1) (.inl rfl) (.slice Ao no8 co) (.int .i64 nx)) (HO.out.ne_blk Hrr.out (by decide)))
        have HKz := Lib.hid (put2_keep HKz0.out (b := w.heap.size + 1 + 1) (.inr (by omega)) (.slice Ao no8 co) (.int .i64 nx))
        go_wp2_with fail
        (try simp only [Exit.inBlock, Exit.then])
        refine bodyPost_ret (it_results2 rfl HBz.out _ rfl) rfl ⟨Ao, no8, co, by rw [HF.out]; rfl, Lib.hid (by rw [HF.out]; exact HNo.out), ?_, HKz.out⟩
        rw [HF.out]
        exact HOz.out.less HK1.out.size

end Go.Proofs.YtijdkjcjhfebfaaGreat
