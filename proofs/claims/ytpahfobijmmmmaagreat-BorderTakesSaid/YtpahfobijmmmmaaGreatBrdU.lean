/- Chapter 20 (border): Right and Take at any border. -/
import Derived.Test.YtpahfobijmmmmaaGreatBdBrdC
import Derived.Test.YtpahfobijmmmmaaGreatBrdE
namespace Go.Proofs.YtpahfobijmmmmaaGreat
open Go.RowKit

theorem rightX_eq (s g : Int) (l : List Len) : rightX (s, g, l) = ((decide (s = -1) || clockB s) && (decide (g = -1) || clockB g) && decide (l.length ≤ 48) && l.all lentB) := rfl
theorem lentB_eq (a b c d : Int) : lentB ((a, b, c), d) = (decide (1 ≤ c) && (decide (0 ≤ b) && decide (b ≤ 16777215)) && decide (0 ≤ d) && decide (d ≤ 1099511627776)) := rfl
theorem all_any (l : List Len) : l.all lentB = !(l.any fun s => !lentB s) := by
  induction l with
  | nil => rfl
  | cons a l ih => rw [List.all_cons, List.any_cons, ih]; cases lentB a <;> simp
set_option maxHeartbeats 2000000 in
set_option maxRecDepth 100000 in
theorem right1_any (s : Len) (w : World) :
    Calls Tryz.prog 29 #[.agg #[.int .i64 s.1.1, .int .i64 s.1.2.1, .int .i64 s.1.2.2, .int .i64 s.2]] w (fun e w' => e = .returned (.bool (!lentB s)) ∧ Keep Never w w') := by
  obtain ⟨⟨s1, s2, s3⟩, s4⟩ := s
  simp only
  obtain ⟨w1, hw1⟩ : ∃ V : World, w.alloc (.cells #[.int .i64 s1, .int .i64 s2, .int .i64 s3, .int .i64 s4] 59) = V := ⟨_, rfl⟩
  have kw1 : Keep Never w w1 := by rw [← hw1]; exact (Keep.refl _ _).alloc _
  have bw1 := Blk.new w 59 #[.int .i64 s1, .int .i64 s2, .int .i64 s3, .int .i64 s4]
  rw [hw1] at bw1
  have HB1 := Lib.hid bw1
  have HK := Lib.hid kw1
  have x1 : w1.cell? ⟨w.heap.size, 1, none⟩ = some (.int .i64 s2) := HB1.out.cell 1
  have x2 : w1.cell? ⟨w.heap.size, 2, none⟩ = some (.int .i64 s3) := HB1.out.cell 2
  have x3 : w1.cell? ⟨w.heap.size, 3, none⟩ = some (.int .i64 s4) := HB1.out.cell 3
  clear kw1 bw1
  by_cases e0 : s3 < 1
  · have t0 : decide (s3 < 1) = true := decide_eq_true e0
    have HF : Hid (lentB ((s1, s2, s3), s4) = false) := Lib.hid (by rw [lentB_eq, ← Bool.not_eq_true]; simp only [Bool.and_eq_true, decide_eq_true_eq]; omega)
    clear e0
    go_enter Tryz.func29, Tryz.ntmps29
    go_wp2_with fail
    go_ret
    exact ⟨by rw [HF.out]; rfl, HK.out⟩
  have t0 : decide (s3 < 1) = false := decide_eq_false e0
  by_cases e1 : s2 < 0
  · have t1 : decide (s2 < 0) = true := decide_eq_true e1
    have HF : Hid (lentB ((s1, s2, s3), s4) = false) := Lib.hid (by rw [lentB_eq, ← Bool.not_eq_true]; simp only [Bool.and_eq_true, decide_eq_true_eq]; omega)
    clear e0 e1
    go_enter Tryz.func29, Tryz.ntmps29
    go_wp2_with fail
    go_ret
    exact ⟨by rw [HF.out]; rfl, HK.out⟩
  have t1 : decide (s2 < 0) = false := decide_eq_false e1
  by_cases e2 : s2 ≥ 16777216
  · have t2 : decide (s2 ≥ 16777216) = true := decide_eq_true e2
    have HF : Hid (lentB ((s1, s2, s3), s4) = false) := Lib.hid (by rw [lentB_eq, ← Bool.not_eq_true]; simp only [Bool.and_eq_true, decide_eq_true_eq]; omega)
    clear e0 e1 e2
    go_enter Tryz.func29, Tryz.ntmps29
    go_wp2_with fail
    go_ret
    exact ⟨by rw [HF.out]; rfl, HK.out⟩
  have t2 : decide (s2 ≥ 16777216) = false := decide_eq_false e2
  by_cases e3 : s4 < 0
  · have t3 : decide (s4 < 0) = true := decide_eq_true e3
    have HF : Hid (lentB ((s1, s2, s3), s4) = false) := Lib.hid (by rw [lentB_eq, ← Bool.not_eq_true]; simp only [Bool.and_eq_true, decide_eq_true_eq]; omega)
    clear e0 e1 e2 e3
    go_enter Tryz.func29, Tryz.ntmps29
    go_wp2_with fail
    go_ret
    exact ⟨by rw [HF.out]; rfl, HK.out⟩
  have t3 : decide (s4 < 0) = false := decide_eq_false e3
  by_cases e4 : s4 > 1099511627776
  · have t4 : decide (s4 > 1099511627776) = true := decide_eq_true e4
    have HF : Hid (lentB ((s1, s2, s3), s4) = false) := Lib.hid (by rw [lentB_eq, ← Bool.not_eq_true]; simp only [Bool.and_eq_true, decide_eq_true_eq]; omega)
    clear e0 e1 e2 e3 e4
    go_enter Tryz.func29, Tryz.ntmps29
    go_wp2_with fail
    go_ret
    exact ⟨by rw [HF.out]; rfl, HK.out⟩
  have t4 : decide (s4 > 1099511627776) = false := decide_eq_false e4
  have HF : Hid (lentB ((s1, s2, s3), s4) = true) := Lib.hid (by rw [lentB_eq]; simp only [Bool.and_eq_true, decide_eq_true_eq]; omega)
  clear e0 e1 e2 e3 e4
  go_enter Tryz.func29, Tryz.ntmps29
  go_wp2_with fail
  go_ret
  exact ⟨by rw [HF.out]; rfl, HK.out⟩

set_option maxHeartbeats 4000000 in
set_option maxRecDepth 100000 in
theorem right20_any (sn gt : Int) (A : Option Addr) (n c B : Nat) (l : List Len) (w : World) (hl : LeAt w B A n c l) (hs : -9223372036854775808 ≤ sn ∧ sn ≤ 9223372036854775807) (hg : -9223372036854775808 ≤ gt ∧ gt ≤ 9223372036854775807) (hn : n ≤ 100000000000) :
    Calls Tryz.prog 14 #[.agg #[.int .i64 sn, .int .i64 gt, .slice A n c]] w (fun e w' => e = .returned (.bool (rightX (sn, gt, l))) ∧ Keep Never w w') := by
  have HTs : Hid (∀ V, Calls Tryz.prog 30 #[.int .i64 sn] V fun e w' => e = .returned (.bool (clockB sn)) ∧ Keep Never V w') := Lib.hid (fun V => btime_any sn V hs.1 hs.2)
  have HTg : Hid (∀ V, Calls Tryz.prog 30 #[.int .i64 gt] V fun e w' => e = .returned (.bool (clockB gt)) ∧ Keep Never V w') := Lib.hid (fun V => btime_any gt V hg.1 hg.2)
  have HCf : Hid (∀ V, Keep Never w V → Calls Tryz.prog 31 #[.slice A n c, .func (.func 29) #[] #[]] V fun e w' => e = .returned (.bool (l.any fun s => !lentB s)) ∧ Keep Never V w') := Lib.hid (fun V hV => containsfT_any 29 #[] _ (enters_of Tryz.func29 (by kernel_rfl) rfl) A n c B l V (hl.keep hV).rd (fun W s _ => right1_any s W) hn)
  have HLn : Hid (l.length = n) := Lib.hid hl.len
  clear hl hs hg hn
  obtain ⟨w1, hw1⟩ : ∃ V : World, w.alloc (.cells #[.int .i64 sn, .int .i64 gt, .slice A n c] 30) = V := ⟨_, rfl⟩
  have kw1 : Keep Never w w1 := by rw [← hw1]; exact (Keep.refl _ _).alloc _
  have bw1 := Blk.new w 30 #[.int .i64 sn, .int .i64 gt, .slice A n c]
  rw [hw1] at bw1
  have HB1 := Lib.hid bw1
  have HK := Lib.hid kw1
  have x0 : w1.cell? ⟨w.heap.size, 0, none⟩ = some (.int .i64 sn) := HB1.out.cell 0
  have x1 : w1.cell? ⟨w.heap.size, 1, none⟩ = some (.int .i64 gt) := HB1.out.cell 1
  have x2 : w1.cell? ⟨w.heap.size, 2, none⟩ = some (.slice A n c) := HB1.out.cell 2
  clear kw1 bw1

  by_cases g1 : sn = -1
  · have t1 : (sn == -1) = true := by simpa using g1
    have HS : Hid ((decide (sn = -1) || clockB sn) = true) := Lib.hid (by rw [decide_eq_true g1]; rfl)
    clear g1
    by_cases g2 : gt = -1
    · have t2 : (gt == -1) = true := by simpa using g2
      have HG : Hid ((decide (gt = -1) || clockB gt) = true) := Lib.hid (by rw [decide_eq_true g2]; rfl)
      clear g2
      by_cases g3 : n ≤ 48
      · have t3 : decide ((n : Int) ≤ 48) = true := decide_eq_true (by omega)
        clear g3
        go_enter Tryz.func14, Tryz.ntmps14
        go_wp2_with fail
        refine (HCf.out _ HK.out).mono ?_
        rintro e w9 ⟨rfl, hk9⟩
        have HF : Hid (rightX (sn, gt, l) = !(l.any fun s => !lentB s)) := Lib.hid (by rw [rightX_eq, HS.out, HG.out, decide_eq_true (by rw [HLn.out]; have := of_decide_eq_true t3; omega), Bool.true_and, Bool.true_and, Bool.true_and, all_any])
        have HK9 := Lib.hid (HK.out.trans hk9)
        clear hk9 HCf
        obtain ⟨y, hy⟩ : ∃ y, (l.any fun s => !lentB s) = y := ⟨_, rfl⟩
        rw [hy] at HF
        rw [hy]
        clear hy
        cases y <;> (go_wp2_with (fail); go_ret; exact ⟨by rw [HF.out]; rfl, HK9.out⟩)
      · have t3 : decide ((n : Int) ≤ 48) = false := decide_eq_false (by omega)
        have HF : Hid (rightX (sn, gt, l) = false) := Lib.hid (by rw [rightX_eq, HS.out, HG.out, decide_eq_false (by rw [HLn.out]; exact g3)]; rfl)
        clear g3
        go_enter Tryz.func14, Tryz.ntmps14
        go_wp2_with fail
        go_ret
        exact ⟨by rw [HF.out]; rfl, HK.out⟩
    · have t2 : (gt == -1) = false := by simpa using g2
      have HG0 : Hid ((decide (gt = -1) || clockB gt) = clockB gt) := Lib.hid (by rw [decide_eq_false g2]; rfl)
      clear g2
      go_enter Tryz.func14, Tryz.ntmps14
      go_wp2_with fail
      refine (HTg.out _).mono ?_
      rintro e w3 ⟨rfl, hk⟩
      have HK3 := Lib.hid (HK.out.trans hk)
      have HB3 := Lib.hid (HB1.out.keep hk (fun h => h))
      clear hk x0 x1 x2
      have x0 : w3.cell? ⟨w.heap.size, 0, none⟩ = some (.int .i64 sn) := HB3.out.cell 0
      have x1 : w3.cell? ⟨w.heap.size, 1, none⟩ = some (.int .i64 gt) := HB3.out.cell 1
      have x2 : w3.cell? ⟨w.heap.size, 2, none⟩ = some (.slice A n c) := HB3.out.cell 2
      obtain ⟨cg, hcg⟩ : ∃ y, clockB gt = y := ⟨_, rfl⟩
      have HG := Lib.hid (HG0.out.trans hcg)
      rw [hcg]
      clear hcg HG0
      cases cg with
      | false =>
        have HF : Hid (rightX (sn, gt, l) = false) := Lib.hid (by rw [rightX_eq, HS.out, HG.out]; rfl)
        go_wp2_with fail
        go_ret
        exact ⟨by rw [HF.out]; rfl, HK3.out⟩
      | true =>
        by_cases g3 : n ≤ 48
        · have t3 : decide ((n : Int) ≤ 48) = true := decide_eq_true (by omega)
          clear g3
          go_wp2_with fail
          refine (HCf.out _ HK3.out).mono ?_
          rintro e w9 ⟨rfl, hk9⟩
          have HF : Hid (rightX (sn, gt, l) = !(l.any fun s => !lentB s)) := Lib.hid (by rw [rightX_eq, HS.out, HG.out, decide_eq_true (by rw [HLn.out]; have := of_decide_eq_true t3; omega), Bool.true_and, Bool.true_and, Bool.true_and, all_any])
          have HK9 := Lib.hid (HK3.out.trans hk9)
          clear hk9 HCf
          obtain ⟨y, hy⟩ : ∃ y, (l.any fun s => !lentB s) = y := ⟨_, rfl⟩
          rw [hy] at HF
          rw [hy]
          clear hy
          cases y <;> (go_wp2_with (fail); go_ret; exact ⟨by rw [HF.out]; rfl, HK9.out⟩)
        · have t3 : decide ((n : Int) ≤ 48) = false := decide_eq_false (by omega)
          have HF : Hid (rightX (sn, gt, l) = false) := Lib.hid (by rw [rightX_eq, HS.out, HG.out, decide_eq_false (by rw [HLn.out]; exact g3)]; rfl)
          clear g3
          go_wp2_with fail
          go_ret
          exact ⟨by rw [HF.out]; rfl, HK3.out⟩
  · have t1 : (sn == -1) = false := by simpa using g1
    have HS0 : Hid ((decide (sn = -1) || clockB sn) = clockB sn) := Lib.hid (by rw [decide_eq_false g1]; rfl)
    clear g1
    go_enter Tryz.func14, Tryz.ntmps14
    go_wp2_with fail
    refine (HTs.out _).mono ?_
    rintro e w2 ⟨rfl, hk⟩
    have HK2 := Lib.hid (HK.out.trans hk)
    have HB2 := Lib.hid (HB1.out.keep hk (fun h => h))
    clear hk x0 x1 x2 hw1
    have x0 : w2.cell? ⟨w.heap.size, 0, none⟩ = some (.int .i64 sn) := HB2.out.cell 0
    have x1 : w2.cell? ⟨w.heap.size, 1, none⟩ = some (.int .i64 gt) := HB2.out.cell 1
    have x2 : w2.cell? ⟨w.heap.size, 2, none⟩ = some (.slice A n c) := HB2.out.cell 2
    obtain ⟨cs, hcs⟩ : ∃ y, clockB sn = y := ⟨_, rfl⟩
    have HS := Lib.hid (HS0.out.trans hcs)
    rw [hcs]
    clear hcs HS0
    cases cs with
    | false =>
      have HF : Hid (rightX (sn, gt, l) = false) := Lib.hid (by rw [rightX_eq, HS.out]; rfl)
      go_wp2_with fail
      go_ret
      exact ⟨by rw [HF.out]; rfl, HK2.out⟩
    | true =>
      by_cases g2 : gt = -1
      · have t2 : (gt == -1) = true := by simpa using g2
        have HG : Hid ((decide (gt = -1) || clockB gt) = true) := Lib.hid (by rw [decide_eq_true g2]; rfl)
        clear g2
        by_cases g3 : n ≤ 48
        · have t3 : decide ((n : Int) ≤ 48) = true := decide_eq_true (by omega)
          clear g3
          go_wp2_with fail
          refine (HCf.out _ HK2.out).mono ?_
          rintro e w9 ⟨rfl, hk9⟩
          have HF : Hid (rightX (sn, gt, l) = !(l.any fun s => !lentB s)) := Lib.hid (by rw [rightX_eq, HS.out, HG.out, decide_eq_true (by rw [HLn.out]; have := of_decide_eq_true t3; omega), Bool.true_and, Bool.true_and, Bool.true_and, all_any])
          have HK9 := Lib.hid (HK2.out.trans hk9)
          clear hk9 HCf
          obtain ⟨y, hy⟩ : ∃ y, (l.any fun s => !lentB s) = y := ⟨_, rfl⟩
          rw [hy] at HF
          rw [hy]
          clear hy
          cases y <;> (go_wp2_with (fail); go_ret; exact ⟨by rw [HF.out]; rfl, HK9.out⟩)
        · have t3 : decide ((n : Int) ≤ 48) = false := decide_eq_false (by omega)
          have HF : Hid (rightX (sn, gt, l) = false) := Lib.hid (by rw [rightX_eq, HS.out, HG.out, decide_eq_false (by rw [HLn.out]; exact g3)]; rfl)
          clear g3
          go_wp2_with fail
          go_ret
          exact ⟨by rw [HF.out]; rfl, HK2.out⟩
      · have t2 : (gt == -1) = false := by simpa using g2
        have HG0 : Hid ((decide (gt = -1) || clockB gt) = clockB gt) := Lib.hid (by rw [decide_eq_false g2]; rfl)
        clear g2
        go_wp2_with fail
        refine (HTg.out _).mono ?_
        rintro e w3 ⟨rfl, hk⟩
        have HK3 := Lib.hid (HK2.out.trans hk)
        have HB3 := Lib.hid (HB2.out.keep hk (fun h => h))
        clear hk x0 x1 x2
        have x0 : w3.cell? ⟨w.heap.size, 0, none⟩ = some (.int .i64 sn) := HB3.out.cell 0
        have x1 : w3.cell? ⟨w.heap.size, 1, none⟩ = some (.int .i64 gt) := HB3.out.cell 1
        have x2 : w3.cell? ⟨w.heap.size, 2, none⟩ = some (.slice A n c) := HB3.out.cell 2
        obtain ⟨cg, hcg⟩ : ∃ y, clockB gt = y := ⟨_, rfl⟩
        have HG := Lib.hid (HG0.out.trans hcg)
        rw [hcg]
        clear hcg HG0
        cases cg with
        | false =>
          have HF : Hid (rightX (sn, gt, l) = false) := Lib.hid (by rw [rightX_eq, HS.out, HG.out]; rfl)
          go_wp2_with fail
          go_ret
          exact ⟨by rw [HF.out]; rfl, HK3.out⟩
        | true =>
          by_cases g3 : n ≤ 48
          · have t3 : decide ((n : Int) ≤ 48) = true := decide_eq_true (by omega)
            clear g3
            go_wp2_with fail
            refine (HCf.out _ HK3.out).mono ?_
            rintro e w9 ⟨rfl, hk9⟩
            have HF : Hid (rightX (sn, gt, l) = !(l.any fun s => !lentB s)) := Lib.hid (by rw [rightX_eq, HS.out, HG.out, decide_eq_true (by rw [HLn.out]; have := of_decide_eq_true t3; omega), Bool.true_and, Bool.true_and, Bool.true_and, all_any])
            have HK9 := Lib.hid (HK3.out.trans hk9)
            clear hk9 HCf
            obtain ⟨y, hy⟩ : ∃ y, (l.any fun s => !lentB s) = y := ⟨_, rfl⟩
            rw [hy] at HF
            rw [hy]
            clear hy
            cases y <;> (go_wp2_with (fail); go_ret; exact ⟨by rw [HF.out]; rfl, HK9.out⟩)
          · have t3 : decide ((n : Int) ≤ 48) = false := decide_eq_false (by omega)
            have HF : Hid (rightX (sn, gt, l) = false) := Lib.hid (by rw [rightX_eq, HS.out, HG.out, decide_eq_false (by rw [HLn.out]; exact g3)]; rfl)
            clear g3
            go_wp2_with fail
            go_ret
            exact ⟨by rw [HF.out]; rfl, HK3.out⟩

set_option maxHeartbeats 2000000 in
set_option maxRecDepth 100000 in
theorem own20_any (k0 tr tt un : Int) (A1 A2 : Option Addr) (n1 c1 n2 c2 g : Nat) (s : Len) (w : World) (hb : Blk w g 34 #[.int .i64 k0, .int .i64 tr, .int .i64 tt, .int .i64 un, .slice A1 n1 c1, .slice A2 n2 c2]) :
    Calls Tryz.prog 20 #[.agg #[.int .i64 s.1.1, .int .i64 s.1.2.1, .int .i64 s.1.2.2, .int .i64 s.2], .pointer (some ⟨g, 0, none⟩)] w (fun e w' => e = .returned (.bool (s.1.2.1 == tr)) ∧ Keep Never w w') := by
  obtain ⟨⟨s1, s2, s3⟩, s4⟩ := s
  simp only
  have Hn := Lib.hid hb
  clear hb
  obtain ⟨w1, hw1⟩ : ∃ V : World, w.alloc (.cells #[.int .i64 s1, .int .i64 s2, .int .i64 s3, .int .i64 s4] 59) = V := ⟨_, rfl⟩
  have kw1 : Keep Never w w1 := by rw [← hw1]; exact (Keep.refl _ _).alloc _
  have bw1 := Blk.new w 59 #[.int .i64 s1, .int .i64 s2, .int .i64 s3, .int .i64 s4]
  rw [hw1] at bw1
  have HB1 := Lib.hid bw1
  have HK := Lib.hid kw1
  have x1 : w1.cell? ⟨w.heap.size, 1, none⟩ = some (.int .i64 s2) := HB1.out.cell 1
  clear kw1 bw1
  have m1 : w1.cell? ⟨g, 1, none⟩ = some (.int .i64 tr) := (Hn.out.keep HK.out (fun h => h)).cell 1
  go_enter Tryz.func20, Tryz.ntmps20
  go_wp2_with fail
  go_ret
  exact ⟨rfl, HK.out⟩


end Go.Proofs.YtpahfobijmmmmaaGreat
