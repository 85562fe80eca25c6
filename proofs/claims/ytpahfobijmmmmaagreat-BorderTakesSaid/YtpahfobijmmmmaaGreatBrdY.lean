/- Chapter 20 (border): Over; the document's Right, Take, Over, Same. -/
import Derived.Test.YtpahfobijmmmmaaGreatBdBrdJ
import Derived.Test.YtpahfobijmmmmaaGreatBdBrdX
namespace Go.Proofs.YtpahfobijmmmmaaGreat
open Go.RowKit

theorem bd1_results {fn : Func} {r : Nat} (h : fn.results = #[.cell r 30]) {w : World} {b : Nat} {v0 v1 v2 : Value} (hb : Blk w b 30 #[v0, v1, v2]) (tmps : Array Value) (ht : tmps.getD r undef = .pointer (some ⟨b, 0, none⟩)) :
    (results fn tmps).run Tryz.prog w = .ok (.agg #[v0, v1, v2]) w := by
  have q0 : w.cell? ⟨b, 0, none⟩ = some v0 := hb.cell 0
  have q1 : w.cell? ⟨b, 1, none⟩ = some v1 := hb.cell 1
  have q2 : w.cell? ⟨b, 2, none⟩ = some v2 := hb.cell 2
  have ht' : tmps[r]?.getD undef = .pointer (some ⟨b, 0, none⟩) := by rw [← Array.getD_eq_getD_getElem?]; exact ht
  simp [results, h, ht', go_sem, q0, q1, q2]
/-- what Over answers: its row is new -/
def OvRet (x : Bdr) (w : World) (e : Ending) (w' : World) : Prop := ∃ A' n' c', e = .returned (.agg #[.int .i64 x.1, .int .i64 x.2.1, .slice A' n' c']) ∧ Own w' w.heap.size 59 4 A' n' c' (leCells x.2.2) ∧ Keep Never w w'
set_option maxHeartbeats 2000000 in
set_option maxRecDepth 100000 in
theorem over201_any (now : Int) (g : Nat) (s : Len) (w : World) (hb : Blk w g 3 #[.int .i64 now]) :
    Calls Tryz.prog 28 #[.agg #[.int .i64 s.1.1, .int .i64 s.1.2.1, .int .i64 s.1.2.2, .int .i64 s.2], .pointer (some ⟨g, 0, none⟩)] w (fun e w' => e = .returned (.bool (decide (s.2 ≤ now))) ∧ Keep Never w w') := by
  obtain ⟨⟨s1, s2, s3⟩, s4⟩ := s
  simp only
  have Hn := Lib.hid hb
  clear hb
  obtain ⟨w1, hw1⟩ : ∃ V : World, w.alloc (.cells #[.int .i64 s1, .int .i64 s2, .int .i64 s3, .int .i64 s4] 59) = V := ⟨_, rfl⟩
  have kw1 : Keep Never w w1 := by rw [← hw1]; exact (Keep.refl _ _).alloc _
  have bw1 := Blk.new w 59 #[.int .i64 s1, .int .i64 s2, .int .i64 s3, .int .i64 s4]
  rw [hw1] at bw1
  have HB1 := Lib.hid bw1
  have HK := Lib.hid kw1
  have x3 : w1.cell? ⟨w.heap.size, 3, none⟩ = some (.int .i64 s4) := HB1.out.cell 3
  clear kw1 bw1
  have m1 : w1.cell? ⟨g, 0, none⟩ = some (.int .i64 now) := (Hn.out.keep HK.out (fun h => h)).cell 0
  go_enter Tryz.func28, Tryz.ntmps28
  go_wp2_with fail
  go_ret
  exact ⟨rfl, HK.out⟩

set_option maxHeartbeats 4000000 in
set_option maxRecDepth 100000 in
theorem over20_any (sn gt now : Int) (A : Option Addr) (n c B : Nat) (l : List Len) (w : World) (hx : LeAt w B A n c l) (hn : n ≤ 1000000) (hB : B ≤ w.heap.size) :
    Calls Tryz.prog 12 #[.agg #[.int .i64 sn, .int .i64 gt, .slice A n c], .int .i64 now] w (OvRet (overX (sn, gt, l) now) w) := by
  have HCl : Hid (∀ V, Keep Never w V → Calls Tryz.prog 19 #[.slice A n c] V fun e w' => ∃ A' c', e = .returned (.slice A' n c') ∧ Own w' V.heap.size 59 4 A' n c' (leCells l) ∧ Keep Never V w') := Lib.hid (fun V hV => clone20T_any A n c B l V (hx.keep hV).rd hx.nil hx.cap (by omega) (Nat.le_trans hB hV.size))
  have eg := enters_of Tryz.func28 (by kernel_rfl) rfl
  have HF : Hid ((l.filter fun s => !decide (s.2 ≤ now)) = l.filter fun h => decide (now < h.2)) := Lib.hid (List.filter_congr (fun u _ => by by_cases g : u.2 ≤ now <;> simp [g] <;> omega))
  clear hx hB
  obtain ⟨w1, hw1⟩ : ∃ V : World, w.alloc (.cells #[.int .i64 sn, .int .i64 gt, .slice A n c] 30) = V := ⟨_, rfl⟩
  have zw1 : w1.heap.size = w.heap.size + 1 := by rw [← hw1]; simp
  have kw1 : Keep Never w w1 := by rw [← hw1]; exact (Keep.refl _ _).alloc _
  have bw1 := Blk.new w 30 #[.int .i64 sn, .int .i64 gt, .slice A n c]
  rw [hw1] at bw1
  obtain ⟨w2, hw2⟩ : ∃ V : World, w1.alloc (.cells #[.int .i64 now] 3) = V := ⟨_, rfl⟩
  have zw2 : w2.heap.size = w.heap.size + 1 + 1 := by rw [← hw2]; simp [zw1]
  have kw2 : Keep Never w1 w2 := by rw [← hw2]; exact (Keep.refl _ _).alloc _
  have bw2 := Blk.new w1 3 #[.int .i64 now]
  rw [hw2, zw1] at bw2
  obtain ⟨w3, hw3⟩ : ∃ V : World, w2.alloc (.cells #[.int .i64 0, .int .i64 0, .slice none 0 0] 30) = V := ⟨_, rfl⟩
  have kw3 : Keep Never w2 w3 := by rw [← hw3]; exact (Keep.refl _ _).alloc _
  have bw3 := Blk.new w2 30 #[.int .i64 0, .int .i64 0, .slice none 0 0]
  rw [hw3, zw2] at bw3
  have HB1 := Lib.hid ((bw1.keep kw2 (fun h => h)).keep kw3 (fun h => h))
  have HB2 := Lib.hid (bw2.keep kw3 (fun h => h))
  have HB3 := Lib.hid bw3
  have HK := Lib.hid ((kw1.trans kw2).trans kw3)
  clear kw1 kw2 kw3 bw1 bw2 bw3
  have x0 : w3.cell? ⟨w.heap.size, 0, none⟩ = some (.int .i64 sn) := HB1.out.cell 0
  have x1 : w3.cell? ⟨w.heap.size, 1, none⟩ = some (.int .i64 gt) := HB1.out.cell 1
  have x2 : w3.cell? ⟨w.heap.size, 2, none⟩ = some (.slice A n c) := HB1.out.cell 2
  go_enter Tryz.func12, Tryz.ntmps12
  go_wp2_with fail
  refine (HCl.out _ HK.out).mono ?_
  rintro e w4 ⟨A7, c7, rfl, ho7, hk7⟩
  have HB14 := Lib.hid (HB1.out.keep hk7 (fun h => h))
  have HB24 := Lib.hid (HB2.out.keep hk7 (fun h => h))
  have HB34 := Lib.hid (HB3.out.keep hk7 (fun h => h))
  have HO4 := Lib.hid (Own.less ho7 HK.out.size)
  have HK4 := Lib.hid (HK.out.trans hk7)
  clear hk7 HCl x0 x1 x2 ho7 hw1 hw2 hw3
  have HDl := Lib.hid (deletefT_any 28 #[.pointer (some ⟨w.heap.size + 1, 0, none⟩)] (fun s => decide (s.2 ≤ now)) eg w.heap.size A7 n c7 l w4 HO4.out (fun W s hk => over201_any now _ s W (HB24.out.keep hk (fun h => HO4.out.ne_blk HB24.out (by decide) _ h rfl))) (by omega))
  rw [HF.out] at HDl
  go_wp2_with fail
  refine HDl.out.mono ?_
  rintro e w9 ⟨rfl, ho9, hk9⟩
  have HB19 := Lib.hid (HB14.out.keep hk9 (fun h => HO4.out.ne_blk HB14.out (by decide) _ h rfl))
  have HB39 := Lib.hid (HB34.out.keep hk9 (fun h => HO4.out.ne_blk HB34.out (by decide) _ h rfl))
  have HO9 := Lib.hid ho9
  have HK9 := Lib.hid (HK4.out.then_ hk9 (fun i hi h => by have := (HO4.out.row h).1; omega))
  clear hk9 ho9 HDl
  have x2 : w9.cell? ⟨w.heap.size, 2, none⟩ = some (.slice A n c) := HB19.out.cell 2
  have xf2 := HB19.out.frozen 2
  go_upto_region 2 with (fail)
  clear x2 xf2
  obtain ⟨w10, hw10⟩ : ∃ V : World, w9.setCell ⟨w.heap.size, 2, none⟩ (.slice A7 (l.filter fun h => decide (now < h.2)).length c7) = V := ⟨_, rfl⟩
  rw [hw10]
  have hk10 : Keep (fun i => i = w.heap.size) w9 w10 := by rw [← hw10]; exact (Keep.refl (fun i => i = w.heap.size) w9).set_ (p := ⟨w.heap.size, 2, none⟩) (.inl rfl) _
  have HB1a : Hid (Blk w10 w.heap.size 30 #[.int .i64 sn, .int .i64 gt, .slice A7 (l.filter fun h => decide (now < h.2)).length c7]) := Lib.hid (by rw [← hw10]; have := HB19.out.set_ 2 (.slice A7 (l.filter fun h => decide (now < h.2)).length c7); simpa using this)
  have HB3a := Lib.hid (HB39.out.keep hk10 (fun h => by omega))
  have HOa := Lib.hid (HO9.out.keep hk10 (HO9.out.ne_blk HB19.out (by decide)))
  have HKa := Lib.hid (HK9.out.then_ hk10 (fun i hi e => by omega))
  clear hw10 hk10 HO9
  have x0 : w10.cell? ⟨w.heap.size, 0, none⟩ = some (.int .i64 sn) := HB1a.out.cell 0
  have x1 : w10.cell? ⟨w.heap.size, 1, none⟩ = some (.int .i64 gt) := HB1a.out.cell 1
  have x2 : w10.cell? ⟨w.heap.size, 2, none⟩ = some (.slice A7 (l.filter fun h => decide (now < h.2)).length c7) := HB1a.out.cell 2
  have r0 : w10.cell? ⟨w.heap.size + 1 + 1, 0, none⟩ = some (.int .i64 0) := HB3a.out.cell 0
  have rf0 := HB3a.out.frozen 0
  have r1 : w10.cell? ⟨w.heap.size + 1 + 1, 1, none⟩ = some (.int .i64 0) := HB3a.out.cell 1
  have rf1 := HB3a.out.frozen 1
  have r2 : w10.cell? ⟨w.heap.size + 1 + 1, 2, none⟩ = some (.slice none 0 0) := HB3a.out.cell 2
  have rf2 := HB3a.out.frozen 2
  go_wp2_with fail
  refine bodyPost_ret (bd1_results rfl (put3S_blk HB3a.out _ _ _) _ rfl) rfl ⟨A7, _, c7, rfl, ?_, put3S_keep HKa.out (.inr (by omega)) _ _ _⟩
  exact HOa.out.keep (put3S_keep (Keep.refl (fun i => i = w.heap.size + 1 + 1) w10) (.inl rfl) _ _ _) (HOa.out.ne_blk HB3a.out (by decide))

set_option maxHeartbeats 8000000 in
set_option maxRecDepth 100000 in
theorem rright20_any (sn gt : Int) (A : Option Addr) (n c B : Nat) (l : List Len) (w : World) (hx : LeAt w B A n c l) :
    Calls Tryz.prog 15 #[.agg #[.int .i64 sn, .int .i64 gt, .slice A n c]] w (fun e w' => e = .returned (.bool (rightX (sn, gt, l))) ∧ Keep Never w w') := by
  have HTs : Hid (∀ V, Calls Tryz.prog 32 #[.int .i64 sn] V fun e w' => e = .returned (.bool (clockB sn)) ∧ Keep Never V w') := Lib.hid (fun V => rtime20_any sn V)
  have HTg : Hid (∀ V, Calls Tryz.prog 32 #[.int .i64 gt] V fun e w' => e = .returned (.bool (clockB gt)) ∧ Keep Never V w') := Lib.hid (fun V => rtime20_any gt V)
  have HTr : Hid (∀ t V, Calls Tryz.prog 33 #[.int .i64 t] V fun e w' => e = .returned (.bool (runB t)) ∧ Keep Never V w') := Lib.hid (fun t V => rtrain20_any t V)
  have HLx := Lib.hid hx
  have HLn : Hid (l.length = n) := Lib.hid hx.len
  clear hx
  obtain ⟨w1, hw1⟩ : ∃ V : World, w.alloc (.cells #[.int .i64 sn, .int .i64 gt, .slice A n c] 30) = V := ⟨_, rfl⟩
  have kw1 : Keep Never w w1 := by rw [← hw1]; exact (Keep.refl _ _).alloc _
  have bw1 := Blk.new w 30 #[.int .i64 sn, .int .i64 gt, .slice A n c]
  rw [hw1] at bw1
  have HB1 := Lib.hid bw1
  have HK := Lib.hid kw1
  clear kw1 bw1
  have x0 : w1.cell? ⟨w.heap.size, 0, none⟩ = some (.int .i64 sn) := HB1.out.cell 0
  have x1 : w1.cell? ⟨w.heap.size, 1, none⟩ = some (.int .i64 gt) := HB1.out.cell 1
  have x2 : w1.cell? ⟨w.heap.size, 2, none⟩ = some (.slice A n c) := HB1.out.cell 2
  go_enter Tryz.func15, Tryz.ntmps15
  go_wp2_with fail
  refine (HTs.out _).mono ?_
  rintro e w2 ⟨rfl, hk⟩
  have HK2 := Lib.hid (HK.out.trans hk)
  have HB2 := Lib.hid (HB1.out.keep hk (fun h => h))
  clear hk HTs x0 x1 x2 hw1
  have x0 : w2.cell? ⟨w.heap.size, 0, none⟩ = some (.int .i64 sn) := HB2.out.cell 0
  have x1 : w2.cell? ⟨w.heap.size, 1, none⟩ = some (.int .i64 gt) := HB2.out.cell 1
  have x2 : w2.cell? ⟨w.heap.size, 2, none⟩ = some (.slice A n c) := HB2.out.cell 2
  go_wp2_with fail
  refine (HTg.out _).mono ?_
  rintro e w3 ⟨rfl, hk⟩
  have HK3 := Lib.hid (HK2.out.trans hk)
  have HB3 := Lib.hid (HB2.out.keep hk (fun h => h))
  clear hk HTg x0 x1 x2
  have x0 : w3.cell? ⟨w.heap.size, 0, none⟩ = some (.int .i64 sn) := HB3.out.cell 0
  have x1 : w3.cell? ⟨w.heap.size, 1, none⟩ = some (.int .i64 gt) := HB3.out.cell 1
  have x2 : w3.cell? ⟨w.heap.size, 2, none⟩ = some (.slice A n c) := HB3.out.cell 2
  obtain ⟨hd, hhd⟩ : ∃ y, ((decide (sn = -1) || clockB sn) && (decide (gt = -1) || clockB gt) && decide (n ≤ 48)) = y := ⟨_, rfl⟩
  have HHd := Lib.hid hhd
  have HRx : Hid (rightX (sn, gt, l) = (hd && l.all lentB)) := Lib.hid (by rw [rightX_eq, ← hhd, HLn.out])
  clear hhd
  obtain ⟨ca, hca⟩ : ∃ y, clockB sn = y := ⟨_, rfl⟩
  obtain ⟨cb, hcb⟩ : ∃ y, clockB gt = y := ⟨_, rfl⟩
  rw [hca, hcb] at HHd ⊢
  clear hca hcb
  go_upto_region 3 with (fail)
  go_cut [35] (fun s wx => s = .bool (!hd) ∧ w3 = wx)
  case first =>
    cases ca with
    | true =>
      cases cb with
      | true =>
        by_cases p3 : n ≤ 48
        · have t3 : decide ((n : Int) > 48) = false := decide_eq_false (by omega)
          have HYv : Hid (hd = true) := Lib.hid (by rw [← HHd.out]; simp [p3])
          clear p3
          go_wp2_with fail
          go_meet
          exact ⟨by rw [HYv.out]; rfl, rfl⟩
        · have t3 : decide ((n : Int) > 48) = true := decide_eq_true (by omega)
          have HYv : Hid (hd = false) := Lib.hid (by rw [← HHd.out]; simp [p3])
          clear p3
          go_wp2_with fail
          go_meet
          exact ⟨by rw [HYv.out]; rfl, rfl⟩
      | false =>
        by_cases p2 : gt = -1
        · have t2 : (gt != -1) = false := by simpa using p2
          by_cases p3 : n ≤ 48
          · have t3 : decide ((n : Int) > 48) = false := decide_eq_false (by omega)
            have HYv : Hid (hd = true) := Lib.hid (by rw [← HHd.out]; simp [p2, p3])
            clear p2
            clear p3
            go_wp2_with fail
            go_meet
            exact ⟨by rw [HYv.out]; rfl, rfl⟩
          · have t3 : decide ((n : Int) > 48) = true := decide_eq_true (by omega)
            have HYv : Hid (hd = false) := Lib.hid (by rw [← HHd.out]; simp [p2, p3])
            clear p2
            clear p3
            go_wp2_with fail
            go_meet
            exact ⟨by rw [HYv.out]; rfl, rfl⟩
        · have t2 : (gt != -1) = true := by simpa using p2
          have HYv : Hid (hd = false) := Lib.hid (by rw [← HHd.out]; simp [p2])
          clear p2
          go_wp2_with fail
          go_meet
          exact ⟨by rw [HYv.out]; rfl, rfl⟩
    | false =>
      by_cases p1 : sn = -1
      · have t1 : (sn != -1) = false := by simpa using p1
        cases cb with
        | true =>
          by_cases p3 : n ≤ 48
          · have t3 : decide ((n : Int) > 48) = false := decide_eq_false (by omega)
            have HYv : Hid (hd = true) := Lib.hid (by rw [← HHd.out]; simp [p1, p3])
            clear p1
            clear p3
            go_wp2_with fail
            go_meet
            exact ⟨by rw [HYv.out]; rfl, rfl⟩
          · have t3 : decide ((n : Int) > 48) = true := decide_eq_true (by omega)
            have HYv : Hid (hd = false) := Lib.hid (by rw [← HHd.out]; simp [p1, p3])
            clear p1
            clear p3
            go_wp2_with fail
            go_meet
            exact ⟨by rw [HYv.out]; rfl, rfl⟩
        | false =>
          by_cases p2 : gt = -1
          · have t2 : (gt != -1) = false := by simpa using p2
            by_cases p3 : n ≤ 48
            · have t3 : decide ((n : Int) > 48) = false := decide_eq_false (by omega)
              have HYv : Hid (hd = true) := Lib.hid (by rw [← HHd.out]; simp [p1, p2, p3])
              clear p1
              clear p2
              clear p3
              go_wp2_with fail
              go_meet
              exact ⟨by rw [HYv.out]; rfl, rfl⟩
            · have t3 : decide ((n : Int) > 48) = true := decide_eq_true (by omega)
              have HYv : Hid (hd = false) := Lib.hid (by rw [← HHd.out]; simp [p1, p2, p3])
              clear p1
              clear p2
              clear p3
              go_wp2_with fail
              go_meet
              exact ⟨by rw [HYv.out]; rfl, rfl⟩
          · have t2 : (gt != -1) = true := by simpa using p2
            have HYv : Hid (hd = false) := Lib.hid (by rw [← HHd.out]; simp [p1, p2])
            clear p1
            clear p2
            go_wp2_with fail
            go_meet
            exact ⟨by rw [HYv.out]; rfl, rfl⟩
      · have t1 : (sn != -1) = true := by simpa using p1
        have HYv : Hid (hd = false) := Lib.hid (by rw [← HHd.out]; simp [p1])
        clear p1
        go_wp2_with fail
        go_meet
        exact ⟨by rw [HYv.out]; rfl, rfl⟩
  case rest =>
  obtain ⟨rfl, rfl⟩ := hcut
  cases hd with
  | false =>
    have HF : Hid (rightX (sn, gt, l) = false) := Lib.hid (by rw [HRx.out]; rfl)
    go_wp2_with fail
    go_ret
    exact ⟨by rw [HF.out]; rfl, HK3.out⟩
  | true =>
    have HN48 : Hid (n ≤ 48) := Lib.hid (by have h1 := HHd.out; simp only [Bool.and_eq_true, decide_eq_true_eq] at h1; exact h1.2)
    clear HHd x0 x1 x2
    simp only [Bool.not_true]
    go_wp2_with fail
    go_loopw [5] (fun i wr => ∃ k : Nat, k ≤ n ∧ i = .int .i64 k ∧ Hid (Keep Never w wr ∧ Blk wr w.heap.size 30 #[.int .i64 sn, .int .i64 gt, .slice A n c] ∧ (l.take k).all lentB = true)) (fun i _ => n - (intOf i).toNat)
    case atStart => exact ⟨0, by omega, rfl, Lib.hid ⟨HK3.out, HB3.out, rfl⟩⟩
    case round =>
      obtain ⟨k, hk, rfl, HH⟩ := hrel
      have HKr := Lib.hid HH.out.1
      have HBr := Lib.hid HH.out.2.1
      have HAr := Lib.hid HH.out.2.2
      clear HH
      have hn48 : n ≤ 48 := HN48.out
      have x0 : wr.cell? ⟨w.heap.size, 0, none⟩ = some (.int .i64 sn) := HBr.out.cell 0
      have x1 : wr.cell? ⟨w.heap.size, 1, none⟩ = some (.int .i64 gt) := HBr.out.cell 1
      have x2 : wr.cell? ⟨w.heap.size, 2, none⟩ = some (.slice A n c) := HBr.out.cell 2
      by_cases h0 : k < n
      · have hki : (k : Int) < (n : Int) := by omega
        obtain ⟨ad, s, hA, _, hs, d0, d1, d2, d3⟩ := (HLx.out.keep HKr.out).rd.le h0
        subst hA
        obtain ⟨⟨s1, s2, s3⟩, s4⟩ := s
        simp only at d0 d1 d2 d3
        have Hs := Lib.hid hs
        clear hs
        have z0 : (wr.alloc (.cells #[.int .i64 0, .int .i64 0, .int .i64 0, .int .i64 0] 59)).cell? ⟨wr.heap.size, 0, none⟩ = some (.int .i64 0) := (Blk.new wr 59 #[.int .i64 0, .int .i64 0, .int .i64 0, .int .i64 0]).cell 0
        have zf0 := (Blk.new wr 59 #[.int .i64 0, .int .i64 0, .int .i64 0, .int .i64 0]).frozen 0
        have z1 : (wr.alloc (.cells #[.int .i64 0, .int .i64 0, .int .i64 0, .int .i64 0] 59)).cell? ⟨wr.heap.size, 1, none⟩ = some (.int .i64 0) := (Blk.new wr 59 #[.int .i64 0, .int .i64 0, .int .i64 0, .int .i64 0]).cell 1
        have zf1 := (Blk.new wr 59 #[.int .i64 0, .int .i64 0, .int .i64 0, .int .i64 0]).frozen 1
        have z2 : (wr.alloc (.cells #[.int .i64 0, .int .i64 0, .int .i64 0, .int .i64 0] 59)).cell? ⟨wr.heap.size, 2, none⟩ = some (.int .i64 0) := (Blk.new wr 59 #[.int .i64 0, .int .i64 0, .int .i64 0, .int .i64 0]).cell 2
        have zf2 := (Blk.new wr 59 #[.int .i64 0, .int .i64 0, .int .i64 0, .int .i64 0]).frozen 2
        have z3 : (wr.alloc (.cells #[.int .i64 0, .int .i64 0, .int .i64 0, .int .i64 0] 59)).cell? ⟨wr.heap.size, 3, none⟩ = some (.int .i64 0) := (Blk.new wr 59 #[.int .i64 0, .int .i64 0, .int .i64 0, .int .i64 0]).cell 3
        have zf3 := (Blk.new wr 59 #[.int .i64 0, .int .i64 0, .int .i64 0, .int .i64 0]).frozen 3
        go_upto_region 9 with (fail)
        clear z0 z1 z2 z3 zf0 zf1 zf2 zf3 d0 d1 d2 d3
        obtain ⟨wb, hwb⟩ : ∃ V : World, wr.alloc (.cells #[.int .i64 s1, .int .i64 s2, .int .i64 s3, .int .i64 s4] 59) = V := ⟨_, rfl⟩
        have kb : Keep Never wr wb := (by rw [← hwb]; exact (Keep.refl _ _).alloc _)
        have bb := Blk.new wr 59 #[.int .i64 s1, .int .i64 s2, .int .i64 s3, .int .i64 s4]
        rw [hwb] at bb ⊢
        obtain ⟨bl, hbl⟩ : ∃ q, wr.heap.size = q := ⟨_, rfl⟩
        rw [hbl] at bb ⊢
        have HKb := Lib.hid (HKr.out.trans kb)
        have HBb := Lib.hid (HBr.out.keep kb (fun h => h))
        have HLb := Lib.hid bb
        clear kb hwb hbl x0 x1 x2
        have y1 : wb.cell? ⟨bl, 1, none⟩ = some (.int .i64 s2) := bb.cell 1
        clear bb
        go_wp2_with fail
        refine (HTr.out _ _).mono ?_
        rintro e w5 ⟨rfl, hk5⟩
        have HK5 := Lib.hid (HKb.out.trans hk5)
        have HB5 := Lib.hid (HBb.out.keep hk5 (fun h => h))
        have HL5 := Lib.hid (HLb.out.keep hk5 (fun h => h))
        clear hk5 y1
        have y0 : w5.cell? ⟨bl, 0, none⟩ = some (.int .i64 s1) := HL5.out.cell 0
        have y1 : w5.cell? ⟨bl, 1, none⟩ = some (.int .i64 s2) := HL5.out.cell 1
        have y2 : w5.cell? ⟨bl, 2, none⟩ = some (.int .i64 s3) := HL5.out.cell 2
        have y3 : w5.cell? ⟨bl, 3, none⟩ = some (.int .i64 s4) := HL5.out.cell 3
        obtain ⟨ct, hct⟩ : ∃ y, runB s2 = y := ⟨_, rfl⟩
        have HCt := Lib.hid hct
        rw [hct]
        clear hct
        cases ct with
        | false =>
          have HF : Hid (rightX (sn, gt, l) = false) := Lib.hid (by
            rw [HRx.out, Bool.true_and, List.all_eq_false]
            exact ⟨_, List.mem_of_getElem? Hs.out, by unfold lentB; simp only; rw [HCt.out]; simp⟩)
          go_wp2_with fail
          go_ret
          exact ⟨by rw [HF.out]; rfl, HK5.out⟩
        | true =>
        by_cases e0 : s3 < 1
        · have t0 : decide (s3 < 1) = true := decide_eq_true e0
          have HF : Hid (rightX (sn, gt, l) = false) := Lib.hid (by
            rw [HRx.out, Bool.true_and, List.all_eq_false]
            exact ⟨_, List.mem_of_getElem? Hs.out, by unfold lentB; simp only [Bool.and_eq_true, decide_eq_true_eq]; omega⟩)
          clear e0
          go_wp2_with fail
          go_ret
          exact ⟨by rw [HF.out]; rfl, HK5.out⟩
        have t0 : decide (s3 < 1) = false := decide_eq_false e0
        by_cases e1 : s4 < 0
        · have t1 : decide (s4 < 0) = true := decide_eq_true e1
          have HF : Hid (rightX (sn, gt, l) = false) := Lib.hid (by
            rw [HRx.out, Bool.true_and, List.all_eq_false]
            exact ⟨_, List.mem_of_getElem? Hs.out, by unfold lentB; simp only [Bool.and_eq_true, decide_eq_true_eq]; omega⟩)
          clear e0 e1
          go_wp2_with fail
          go_ret
          exact ⟨by rw [HF.out]; rfl, HK5.out⟩
        have t1 : decide (s4 < 0) = false := decide_eq_false e1
        by_cases e2 : s4 > 1099511627776
        · have t2 : decide (s4 > 1099511627776) = true := decide_eq_true e2
          have HF : Hid (rightX (sn, gt, l) = false) := Lib.hid (by
            rw [HRx.out, Bool.true_and, List.all_eq_false]
            exact ⟨_, List.mem_of_getElem? Hs.out, by unfold lentB; simp only [Bool.and_eq_true, decide_eq_true_eq]; omega⟩)
          clear e0 e1 e2
          go_wp2_with fail
          go_ret
          exact ⟨by rw [HF.out]; rfl, HK5.out⟩
        have t2 : decide (s4 > 1099511627776) = false := decide_eq_false e2
        have HAn : Hid ((l.take (k + 1)).all lentB = true) := Lib.hid (by
          rw [List.take_add_one, Hs.out, List.all_append, HAr.out]
          simp only [Option.toList_some, List.all_cons, List.all_nil, Bool.and_true, Bool.true_and]
          unfold lentB
          simp only [Bool.and_eq_true, decide_eq_true_eq]
          exact ⟨⟨⟨by omega, HCt.out⟩, by omega⟩, by omega⟩)
        clear e0 e1 e2
        go_wp2_with fail
        refine ⟨⟨k + 1, by omega, by go_num, Lib.hid ⟨HK5.out, HB5.out, HAn.out⟩⟩, ?_⟩
        simp [intOf]; try omega
      · obtain rfl : k = n := by omega
        have hki : ¬ (k : Int) < (k : Int) := by omega
        have HF : Hid (rightX (sn, gt, l) = true) := Lib.hid (by rw [HRx.out, Bool.true_and]; have h1 := HAr.out; rwa [List.take_of_length_le (by have := HLn.out; omega)] at h1)
        go_wp2_with fail
        go_ret
        exact ⟨by rw [HF.out]; rfl, HKr.out⟩

set_option maxHeartbeats 8000000 in
set_option maxRecDepth 100000 in
theorem rover20_any (sn gt now : Int) (A : Option Addr) (n c B : Nat) (l : List Len) (w : World) (hx : LeAt w B A n c l) (hn : n ≤ 1000000) :
    Calls Tryz.prog 13 #[.agg #[.int .i64 sn, .int .i64 gt, .slice A n c], .int .i64 now] w (OvRet (overX (sn, gt, l) now) w) := by
  have HLx := Lib.hid hx
  have HLn : Hid (l.length = n) := Lib.hid hx.len
  have Hn := Lib.hid hn
  clear hx hn
  obtain ⟨w1, hw1⟩ : ∃ V : World, w.alloc (.cells #[.int .i64 sn, .int .i64 gt, .slice A n c] 30) = V := ⟨_, rfl⟩
  have zw1 : w1.heap.size = w.heap.size + 1 := by rw [← hw1]; simp
  have kw1 : Keep Never w w1 := by rw [← hw1]; exact (Keep.refl _ _).alloc _
  have bw1 := Blk.new w 30 #[.int .i64 sn, .int .i64 gt, .slice A n c]
  rw [hw1] at bw1
  obtain ⟨w2, hw2⟩ : ∃ V : World, w1.alloc (.cells #[.int .i64 0, .int .i64 0, .slice none 0 0] 30) = V := ⟨_, rfl⟩
  have kw2 : Keep Never w1 w2 := by rw [← hw2]; exact (Keep.refl _ _).alloc _
  have bw2 := Blk.new w1 30 #[.int .i64 0, .int .i64 0, .slice none 0 0]
  rw [hw2, zw1] at bw2
  have HB1 := Lib.hid (bw1.keep kw2 (fun h => h))
  have HB2 := Lib.hid bw2
  have HK := Lib.hid (kw1.trans kw2)
  clear kw1 kw2 bw1 bw2
  have x0 : w2.cell? ⟨w.heap.size, 0, none⟩ = some (.int .i64 sn) := HB1.out.cell 0
  have x1 : w2.cell? ⟨w.heap.size, 1, none⟩ = some (.int .i64 gt) := HB1.out.cell 1
  have x2 : w2.cell? ⟨w.heap.size, 2, none⟩ = some (.slice A n c) := HB1.out.cell 2
  have z0 : (w2.alloc (.cells #[.int .i64 0, .int .i64 0, .slice none 0 0] 30)).cell? ⟨w2.heap.size, 0, none⟩ = some (.int .i64 0) := (Blk.new w2 30 #[.int .i64 0, .int .i64 0, .slice none 0 0]).cell 0
  have zf0 := (Blk.new w2 30 #[.int .i64 0, .int .i64 0, .slice none 0 0]).frozen 0
  have z1 : (w2.alloc (.cells #[.int .i64 0, .int .i64 0, .slice none 0 0] 30)).cell? ⟨w2.heap.size, 1, none⟩ = some (.int .i64 0) := (Blk.new w2 30 #[.int .i64 0, .int .i64 0, .slice none 0 0]).cell 1
  have zf1 := (Blk.new w2 30 #[.int .i64 0, .int .i64 0, .slice none 0 0]).frozen 1
  have z2 : (w2.alloc (.cells #[.int .i64 0, .int .i64 0, .slice none 0 0] 30)).cell? ⟨w2.heap.size, 2, none⟩ = some (.slice none 0 0) := (Blk.new w2 30 #[.int .i64 0, .int .i64 0, .slice none 0 0]).cell 2
  have zf2 := (Blk.new w2 30 #[.int .i64 0, .int .i64 0, .slice none 0 0]).frozen 2
  go_enter Tryz.func13, Tryz.ntmps13
  go_upto_region 2 with (fail)
  clear z0 z1 z2 zf0 zf1 zf2
  obtain ⟨w3, hw3⟩ : ∃ V : World, w2.alloc (.cells #[.int .i64 sn, .int .i64 gt, .slice none 0 0] 30) = V := ⟨_, rfl⟩
  have k3 : Keep Never w2 w3 := (by rw [← hw3]; exact (Keep.refl _ _).alloc _)
  have B3 := Blk.new w2 30 #[.int .i64 sn, .int .i64 gt, .slice none 0 0]
  rw [hw3] at B3 ⊢
  obtain ⟨bo, hbo⟩ : ∃ q, w2.heap.size = q := ⟨_, rfl⟩
  rw [hbo] at B3 ⊢
  have HK3 := Lib.hid (HK.out.trans k3)
  have HB13 := Lib.hid (HB1.out.keep k3 (fun h => h))
  have HB23 := Lib.hid (HB2.out.keep k3 (fun h => h))
  have HO3 := Lib.hid B3
  have HBo : Hid (w.heap.size ≤ bo ∧ bo ≠ w.heap.size ∧ bo ≠ w.heap.size + 1) := Lib.hid ⟨by rw [← hbo]; exact HK.out.size, by have := HB1.out.lt; omega, by have := HB2.out.lt; omega⟩
  clear k3 B3 hw3 hbo x0 x1 x2 hw1 hw2
  go_wp2_with fail
  go_loopw [6] (fun i wr => ∃ (k no co : Nat) (Ao : Option Addr), k ≤ n ∧ i = .int .i64 k ∧ no ≤ k ∧ Hid (Keep Never w wr ∧ Blk wr w.heap.size 30 #[.int .i64 sn, .int .i64 gt, .slice A n c] ∧ Blk wr (w.heap.size + 1) 30 #[.int .i64 0, .int .i64 0, .slice none 0 0] ∧ Blk wr bo 30 #[.int .i64 sn, .int .i64 gt, .slice Ao no co] ∧ Own wr w.heap.size 59 4 Ao no co (leCells ((l.take k).filter fun h => decide (now < h.2))))) (fun i _ => n - (intOf i).toNat)
  case atStart => exact ⟨0, 0, 0, none, by omega, rfl, by omega, Lib.hid ⟨HK3.out, HB13.out, HB23.out, HO3.out, Own.nil _ _ _ _⟩⟩
  case round =>
    obtain ⟨k, no, co, Ao, hk, rfl, hno, HH⟩ := hrel
    have HKr := Lib.hid HH.out.1
    have HB1r := Lib.hid HH.out.2.1
    have HB2r := Lib.hid HH.out.2.2.1
    have HBor := Lib.hid HH.out.2.2.2.1
    have HOr := Lib.hid HH.out.2.2.2.2
    clear HH
    have hn6 : n ≤ 1000000 := Hn.out
    have x0 : wr.cell? ⟨w.heap.size, 0, none⟩ = some (.int .i64 sn) := HB1r.out.cell 0
    have x1 : wr.cell? ⟨w.heap.size, 1, none⟩ = some (.int .i64 gt) := HB1r.out.cell 1
    have x2 : wr.cell? ⟨w.heap.size, 2, none⟩ = some (.slice A n c) := HB1r.out.cell 2
    by_cases h0 : k < n
    · have hki : (k : Int) < (n : Int) := by omega
      obtain ⟨ad, s, hA, _, hs, d0, d1, d2, d3⟩ := (HLx.out.keep HKr.out).rd.le h0
      subst hA
      have HTk := Lib.hid (filter_takeT hs (fun h => decide (now < h.2)))
      clear hs
      obtain ⟨⟨s1, s2, s3⟩, s4⟩ := s
      simp only at d0 d1 d2 d3 HTk
      by_cases g : now < s4
      · have t0 : decide (s4 > now) = true := decide_eq_true g
        have HTn : Hid ((l.take (k + 1)).filter (fun h => decide (now < h.2)) = (l.take k).filter (fun h => decide (now < h.2)) ++ [((s1, s2, s3), s4)]) := Lib.hid (by rw [HTk.out, if_pos (decide_eq_true g)])
        have hsz : w.heap.size ≤ wr.heap.size := HKr.out.size
        have x2a : ∀ o, (wr.alloc o).cell? ⟨w.heap.size, 2, none⟩ = some (.slice (some ad) n c) := fun o => keepT ((Keep.refl Never wr).alloc o) x2
        have o2 : wr.cell? ⟨bo, 2, none⟩ = some (.slice Ao no co) := HBor.out.cell 2
        have o2a : ∀ o, (wr.alloc o).cell? ⟨bo, 2, none⟩ = some (.slice Ao no co) := fun o => keepT ((Keep.refl Never wr).alloc o) o2
        clear g HTk
        go_upto_region 6 with (fail)
        go_region_law (refine step_app _ rfl (.tmp 28) (.tmp 34) _ rfl elemLe w.heap.size (A := Ao) (n := no) (c := co) (by go_simp) (HOr.out.alloc _) _ (A' := some ⟨_, 0, none⟩) (m := 1) (c' := 1) (news := [.int .i64 s1, .int .i64 s2, .int .i64 s3, .int .i64 s4]) (by go_simp) (Rd.of_blk (n := 1) (cs := [.int .i64 s1, .int .i64 s2, .int .i64 s3, .int .i64 s4]) (Blk.new _ _ _) rfl) (by simp [Value.oneCell']) (by omega) (by unfold maxLen; omega) (by simp; omega) ?_; intro A5 c5 w16 hown hk hrow; have hk16 : Keep (InRow Ao) wr w16 := (by first | exact (((Keep.refl (InRow Ao) wr).alloc _).drew).trans hk | exact (((Keep.refl (InRow Ao) wr).drew).alloc _).trans hk | exact ((Keep.refl (InRow Ao) wr).alloc _).trans hk); have HO16 := Lib.hid hown; have HK16 := Lib.hid (HKr.out.then_ hk16 (fun i hi h => by have := (HOr.out.row h).1; omega)); have HB116 := Lib.hid (HB1r.out.keep hk16 (fun h => HOr.out.ne_blk HB1r.out (by decide) _ h rfl)); have HB216 := Lib.hid (HB2r.out.keep hk16 (fun h => HOr.out.ne_blk HB2r.out (by decide) _ h rfl)); have HBo16 := Lib.hid (HBor.out.keep hk16 (fun h => HOr.out.ne_blk HBor.out (by decide) _ h rfl)); have o2b := HBo16.out.cell 2; have f2 := HBo16.out.frozen 2; clear hown hk hrow hk16)
        all_goals
          have hk17 : Keep (fun i => i = bo) w16 (w16.setCell ⟨bo, 2, none⟩ (.slice A5 (no + 1) c5)) := (Keep.refl (fun i => i = bo) w16).set_ (p := ⟨bo, 2, none⟩) (.inl rfl) _
          have HK17 := Lib.hid (HK16.out.then_ hk17 (fun i hi e => by have := HBo.out.1; omega))
          have HB117 := Lib.hid (HB116.out.keep hk17 (fun h => HBo.out.2.1 h.symm))
          have HB217 := Lib.hid (HB216.out.keep hk17 (fun h => HBo.out.2.2 h.symm))
          have HBo17 : Hid (Blk (w16.setCell ⟨bo, 2, none⟩ (.slice A5 (no + 1) c5)) bo 30 #[.int .i64 sn, .int .i64 gt, .slice A5 (no + 1) c5]) := Lib.hid (by have := HBo16.out.set_ 2 (.slice A5 (no + 1) c5); simpa using this)
          have HO17 : Hid (Own (w16.setCell ⟨bo, 2, none⟩ (.slice A5 (no + 1) c5)) w.heap.size 59 4 A5 (no + 1) c5 (leCells ((l.take (k + 1)).filter fun h => decide (now < h.2)))) := Lib.hid (by
            rw [HTn.out, leCells_app]
            exact HO16.out.far (p := ⟨bo, 2, none⟩) (HO16.out.ne_blk HBo16.out (by decide)) _)
          clear hk17 o2 o2a o2b f2 x0 x1 x2 x2a d0 d1 d2 d3
          go_wp2_with fail
          refine ⟨⟨k + 1, no + 1, c5, A5, by omega, by go_num, by omega, Lib.hid ⟨HK17.out, HB117.out, HB217.out, HBo17.out, HO17.out⟩⟩, ?_⟩
          simp [intOf]; try omega
      · have t0 : decide (s4 > now) = false := decide_eq_false (by omega)
        have HTn : Hid ((l.take (k + 1)).filter (fun h => decide (now < h.2)) = (l.take k).filter (fun h => decide (now < h.2))) := Lib.hid (by rw [HTk.out, if_neg (by rw [decide_eq_false g]; simp), List.append_nil])
        clear g HTk
        go_wp2_with fail
        refine ⟨⟨k + 1, no, co, Ao, by omega, by go_num, by omega, Lib.hid ⟨HKr.out, HB1r.out, HB2r.out, HBor.out, by rw [HTn.out]; exact HOr.out⟩⟩, ?_⟩
        simp [intOf]; try omega
    · obtain rfl : k = n := by omega
      have hki : ¬ (k : Int) < (k : Int) := by omega
      have HE : Hid (l.take k = l) := Lib.hid (List.take_of_length_le (by have := HLn.out; omega))
      have HOf : Hid (Own wr w.heap.size 59 4 Ao no co (leCells (l.filter fun h => decide (now < h.2)))) := Lib.hid (by have h1 := HOr.out; rwa [HE.out] at h1)
      have o0 : wr.cell? ⟨bo, 0, none⟩ = some (.int .i64 sn) := HBor.out.cell 0
      have o1 : wr.cell? ⟨bo, 1, none⟩ = some (.int .i64 gt) := HBor.out.cell 1
      have o2 : wr.cell? ⟨bo, 2, none⟩ = some (.slice Ao no co) := HBor.out.cell 2
      have r0 : wr.cell? ⟨w.heap.size + 1, 0, none⟩ = some (.int .i64 0) := HB2r.out.cell 0
      have rf0 := HB2r.out.frozen 0
      have r1 : wr.cell? ⟨w.heap.size + 1, 1, none⟩ = some (.int .i64 0) := HB2r.out.cell 1
      have rf1 := HB2r.out.frozen 1
      have r2 : wr.cell? ⟨w.heap.size + 1, 2, none⟩ = some (.slice none 0 0) := HB2r.out.cell 2
      have rf2 := HB2r.out.frozen 2
      go_wp2_with fail
      refine bodyPost_ret (bd1_results rfl (put3S_blk HB2r.out _ _ _) _ rfl) rfl ⟨Ao, no, co, rfl, ?_, put3S_keep HKr.out (.inr (by omega)) _ _ _⟩
      exact HOf.out.keep (put3S_keep (Keep.refl (fun i => i = w.heap.size + 1) wr) (.inl rfl) _ _ _) (HOf.out.ne_blk HB2r.out (by decide))

set_option maxHeartbeats 4000000 in
set_option maxRecDepth 100000 in
theorem rsame20_any (sn gt : Int) (A A2 : Option Addr) (n c c2 B B2 : Nat) (l : List Len) (w : World) (hx : LeAt w B A n c l) (hy : LeAt w B2 A2 n c2 l) (hn : n ≤ 1000000) :
    Calls Tryz.prog 8 #[.agg #[.int .i64 sn, .int .i64 gt, .slice A n c], .agg #[.int .i64 sn, .int .i64 gt, .slice A2 n c2]] w (fun e w' => e = .returned (.bool true) ∧ Keep Never w w') := by
  have HL1 := Lib.hid hx
  have HL2 := Lib.hid hy
  clear hx hy
  obtain ⟨w1, hw1⟩ : ∃ V : World, w.alloc (.cells #[.int .i64 sn, .int .i64 gt, .slice A n c] 30) = V := ⟨_, rfl⟩
  have zw1 : w1.heap.size = w.heap.size + 1 := by rw [← hw1]; simp
  have kw1 : Keep Never w w1 := by rw [← hw1]; exact (Keep.refl _ _).alloc _
  have bw1 := Blk.new w 30 #[.int .i64 sn, .int .i64 gt, .slice A n c]
  rw [hw1] at bw1
  obtain ⟨w2, hw2⟩ : ∃ V : World, w1.alloc (.cells #[.int .i64 sn, .int .i64 gt, .slice A2 n c2] 30) = V := ⟨_, rfl⟩
  have kw2 : Keep Never w1 w2 := by rw [← hw2]; exact (Keep.refl _ _).alloc _
  have bw2 := Blk.new w1 30 #[.int .i64 sn, .int .i64 gt, .slice A2 n c2]
  rw [hw2, zw1] at bw2
  have HB1 := Lib.hid (bw1.keep kw2 (fun h => h))
  have HB2 := Lib.hid bw2
  have HK := Lib.hid (kw1.trans kw2)
  clear kw1 kw2 bw1 bw2
  have x0 : w2.cell? ⟨w.heap.size, 0, none⟩ = some (.int .i64 sn) := HB1.out.cell 0
  have x1 : w2.cell? ⟨w.heap.size, 1, none⟩ = some (.int .i64 gt) := HB1.out.cell 1
  have x2 : w2.cell? ⟨w.heap.size, 2, none⟩ = some (.slice A n c) := HB1.out.cell 2
  have y0 : w2.cell? ⟨w.heap.size + 1, 0, none⟩ = some (.int .i64 sn) := HB2.out.cell 0
  have y1 : w2.cell? ⟨w.heap.size + 1, 1, none⟩ = some (.int .i64 gt) := HB2.out.cell 1
  have y2 : w2.cell? ⟨w.heap.size + 1, 2, none⟩ = some (.slice A2 n c2) := HB2.out.cell 2
  have ts : (sn != sn) = false := by simp
  have tg : (gt != gt) = false := by simp
  have tn : ((n : Int) != (n : Int)) = false := by simp
  go_enter Tryz.func8, Tryz.ntmps8
  go_wp2_with fail
  clear hw1 hw2 ts tg tn
  go_loopw [5] (fun i wr => ∃ k : Nat, k ≤ n ∧ i = .int .i64 k ∧ Hid (Keep Never w wr ∧ Blk wr w.heap.size 30 #[.int .i64 sn, .int .i64 gt, .slice A n c] ∧ Blk wr (w.heap.size + 1) 30 #[.int .i64 sn, .int .i64 gt, .slice A2 n c2])) (fun i _ => n - (intOf i).toNat)
  case atStart => exact ⟨0, by omega, rfl, Lib.hid ⟨HK.out, HB1.out, HB2.out⟩⟩
  case round =>
    obtain ⟨k, hk, rfl, HH⟩ := hrel
    have HKr := Lib.hid HH.out.1
    have HB1r := Lib.hid HH.out.2.1
    have HB2r := Lib.hid HH.out.2.2
    clear HH x0 x1 x2 y0 y1 y2
    have x0 : wr.cell? ⟨w.heap.size, 0, none⟩ = some (.int .i64 sn) := HB1r.out.cell 0
    have x1 : wr.cell? ⟨w.heap.size, 1, none⟩ = some (.int .i64 gt) := HB1r.out.cell 1
    have x2 : wr.cell? ⟨w.heap.size, 2, none⟩ = some (.slice A n c) := HB1r.out.cell 2
    have y0 : wr.cell? ⟨w.heap.size + 1, 0, none⟩ = some (.int .i64 sn) := HB2r.out.cell 0
    have y1 : wr.cell? ⟨w.heap.size + 1, 1, none⟩ = some (.int .i64 gt) := HB2r.out.cell 1
    have y2 : wr.cell? ⟨w.heap.size + 1, 2, none⟩ = some (.slice A2 n c2) := HB2r.out.cell 2
    by_cases h0 : k < n
    · have hki : (k : Int) < (n : Int) := by omega
      obtain ⟨ad, s, hA, _, hs, d0, d1, d2, d3⟩ := (HL1.out.keep HKr.out).rd.le h0
      obtain ⟨ad2, s', hA2, _, hs', e0, e1, e2, e3⟩ := (HL2.out.keep HKr.out).rd.le h0
      subst hA hA2
      obtain rfl : s = s' := by rw [hs] at hs'; injection hs'
      obtain ⟨⟨s1, s2, s3⟩, s4⟩ := s
      simp only at d0 d1 d2 d3 e0 e1 e2 e3
      clear hs hs'
      go_wp2_with fail
      go_quiet (fail)
      go_wp2_with fail
      have HKd := Lib.hid (HKr.out.drewN nq)
      have HBd1 := Lib.hid (HB1r.out.keep ((Keep.refl Never wr).drewN nq) (fun h => h))
      have HBd2 := Lib.hid (HB2r.out.keep ((Keep.refl Never wr).drewN nq) (fun h => h))
      go_roundw
      case rel => exact ⟨k + 1, by omega, by go_num, Lib.hid ⟨HKd.out, HBd1.out, HBd2.out⟩⟩
      case measure => simp [intOf]; try omega
    · obtain rfl : k = n := by omega
      have hki : ¬ (k : Int) < (k : Int) := by omega
      go_wp2_with fail
      go_ret
      exact ⟨rfl, HKr.out⟩

set_option maxHeartbeats 8000000 in
set_option maxRecDepth 100000 in
theorem rtake20b_any (sn gt : Int) (A : Option Addr) (n c : Nat) (l : List Len) (k0 tr tt un : Int) (A1 A2 : Option Addr) (n1 c1 n2 c2 B : Nat) (ln : List Lok) (h : List Sp) (w : World) (hx : LeAt w B A n c l) (hl : SpAt w B A1 n1 c1 ln) (hh : SpAt w B A2 n2 c2 h) (hn1 : n1 ≤ 1000) (hn2 : n2 ≤ 1000) (hB : B ≤ w.heap.size) :
    Calls Tryz.prog 7 #[.agg #[.int .i64 sn, .int .i64 gt, .slice A n c], .agg #[.int .i64 k0, .int .i64 tr, .int .i64 tt, .int .i64 un, .slice A1 n1 c1, .slice A2 n2 c2]] w (TkRet (takeM (sn, gt, l) (k0, tr, tt, un, ln, h)) w) := by
  have HR : Hid (∀ V, Keep Never w V → Calls Tryz.prog 15 #[.agg #[.int .i64 sn, .int .i64 gt, .slice A n c]] V fun e w' => e = .returned (.bool (rightX (sn, gt, l))) ∧ Keep Never V w') := Lib.hid (fun V hV => rright20_any sn gt A n c B l V (hx.keep hV))
  have HMy : Hid (∀ V, Keep Never w V → Calls Tryz.prog 22 #[.agg #[.int .i64 k0, .int .i64 tr, .int .i64 tt, .int .i64 un, .slice A1 n1 c1, .slice A2 n2 c2]] V fun e w' => e = .returned (.bool (mayN (k0, tr, tt, un, ln, h))) ∧ Keep Never V w') := Lib.hid (fun V hV => rmay20_any k0 tr tt un A1 A2 n1 c1 n2 c2 B ln h V (hl.keep hV) (hh.keep hV) hn1 hn2 (Nat.le_trans hB hV.size))
  have HLx := Lib.hid hx
  have HLl := Lib.hid hl
  have HLn : Hid (l.length = n) := Lib.hid hx.len
  have HN1 : Hid (ln.length = n1) := Lib.hid hl.len
  clear hx hl hh hn1 hn2 hB
  obtain ⟨w1, hw1⟩ : ∃ V : World, w.alloc (.cells #[.int .i64 sn, .int .i64 gt, .slice A n c] 30) = V := ⟨_, rfl⟩
  have zw1 : w1.heap.size = w.heap.size + 1 := by rw [← hw1]; simp
  have kw1 : Keep Never w w1 := by rw [← hw1]; exact (Keep.refl _ _).alloc _
  have bw1 := Blk.new w 30 #[.int .i64 sn, .int .i64 gt, .slice A n c]
  rw [hw1] at bw1
  obtain ⟨w2, hw2⟩ : ∃ V : World, w1.alloc (.cells #[.int .i64 k0, .int .i64 tr, .int .i64 tt, .int .i64 un, .slice A1 n1 c1, .slice A2 n2 c2] 34) = V := ⟨_, rfl⟩
  have zw2 : w2.heap.size = w.heap.size + 1 + 1 := by rw [← hw2]; simp [zw1]
  have kw2 : Keep Never w1 w2 := by rw [← hw2]; exact (Keep.refl _ _).alloc _
  have bw2 := Blk.new w1 34 #[.int .i64 k0, .int .i64 tr, .int .i64 tt, .int .i64 un, .slice A1 n1 c1, .slice A2 n2 c2]
  rw [hw2, zw1] at bw2
  obtain ⟨w3, hw3⟩ : ∃ V : World, w2.alloc (.cells #[.int .i64 0, .int .i64 0, .slice none 0 0] 30) = V := ⟨_, rfl⟩
  have kw3 : Keep Never w2 w3 := by rw [← hw3]; exact (Keep.refl _ _).alloc _
  have bw3 := Blk.new w2 30 #[.int .i64 0, .int .i64 0, .slice none 0 0]
  rw [hw3, zw2] at bw3
  have HB1 := Lib.hid ((bw1.keep kw2 (fun h => h)).keep kw3 (fun h => h))
  have HB2 := Lib.hid (bw2.keep kw3 (fun h => h))
  have HB3 := Lib.hid bw3
  have HK := Lib.hid ((kw1.trans kw2).trans kw3)
  clear kw1 kw2 kw3 bw1 bw2 bw3
  obtain ⟨rx, hrx⟩ : ∃ y, rightX (sn, gt, l) = y := ⟨_, rfl⟩
  obtain ⟨my, hmy⟩ : ∃ y, mayN (k0, tr, tt, un, ln, h) = y := ⟨_, rfl⟩
  rw [hrx] at HR
  rw [hmy] at HMy
  have HRx := Lib.hid hrx
  have HMx := Lib.hid hmy
  clear hrx hmy
  have x0 : w3.cell? ⟨w.heap.size, 0, none⟩ = some (.int .i64 sn) := HB1.out.cell 0
  have x1 : w3.cell? ⟨w.heap.size, 1, none⟩ = some (.int .i64 gt) := HB1.out.cell 1
  have x2 : w3.cell? ⟨w.heap.size, 2, none⟩ = some (.slice A n c) := HB1.out.cell 2
  go_enter Tryz.func7, Tryz.ntmps7
  go_wp2_with fail
  refine (HR.out _ HK.out).mono ?_
  rintro e w4 ⟨rfl, hk4⟩
  have HB14 := Lib.hid (HB1.out.keep hk4 (fun h => h))
  have HB24 := Lib.hid (HB2.out.keep hk4 (fun h => h))
  have HB34 := Lib.hid (HB3.out.keep hk4 (fun h => h))
  have HK4 := Lib.hid (HK.out.trans hk4)
  clear hk4 HR x0 x1 x2 hw1 hw2 hw3
  have m0 : w4.cell? ⟨w.heap.size + 1, 0, none⟩ = some (.int .i64 k0) := HB24.out.cell 0
  have m1 : w4.cell? ⟨w.heap.size + 1, 1, none⟩ = some (.int .i64 tr) := HB24.out.cell 1
  have m2 : w4.cell? ⟨w.heap.size + 1, 2, none⟩ = some (.int .i64 tt) := HB24.out.cell 2
  have m3 : w4.cell? ⟨w.heap.size + 1, 3, none⟩ = some (.int .i64 un) := HB24.out.cell 3
  have m4 : w4.cell? ⟨w.heap.size + 1, 4, none⟩ = some (.slice A1 n1 c1) := HB24.out.cell 4
  have m5 : w4.cell? ⟨w.heap.size + 1, 5, none⟩ = some (.slice A2 n2 c2) := HB24.out.cell 5
  go_wp2_with fail
  refine (HMy.out _ HK4.out).mono ?_
  rintro e w5 ⟨rfl, hk5⟩
  have HB15 := Lib.hid (HB14.out.keep hk5 (fun h => h))
  have HB25 := Lib.hid (HB24.out.keep hk5 (fun h => h))
  have HB35 := Lib.hid (HB34.out.keep hk5 (fun h => h))
  have HK5 := Lib.hid (HK4.out.trans hk5)
  clear hk5 HMy m0 m1 m2 m3 m4 m5
  cases rx with
  | false =>
    have HF : Hid (takeM (sn, gt, l) (k0, tr, tt, un, ln, h) = (noX, 1)) := Lib.hid (by unfold takeM; rw [if_neg (fun h => by rw [HRx.out] at h; cases h.1)])
    have r0 : w5.cell? ⟨w.heap.size + 1 + 1, 0, none⟩ = some (.int .i64 0) := HB35.out.cell 0
    have rf0 := HB35.out.frozen 0
    have r1 : w5.cell? ⟨w.heap.size + 1 + 1, 1, none⟩ = some (.int .i64 0) := HB35.out.cell 1
    have rf1 := HB35.out.frozen 1
    have r2 : w5.cell? ⟨w.heap.size + 1 + 1, 2, none⟩ = some (.slice none 0 0) := HB35.out.cell 2
    have rf2 := HB35.out.frozen 2
    go_wp2_with fail
    refine bodyPost_ret (bd_results rfl (put3S_blk HB35.out _ _ _) _ rfl) rfl ⟨none, 0, 0, ?_, ?_, put3S_keep HK5.out (.inr (by omega)) _ _ _⟩
    · rw [HF.out]; rfl
    · rw [HF.out]; exact Own.nil _ _ _ _
  | true =>
  cases my with
  | false =>
    have HF : Hid (takeM (sn, gt, l) (k0, tr, tt, un, ln, h) = (noX, 1)) := Lib.hid (by unfold takeM; rw [if_neg (fun h => by rw [HMx.out] at h; cases h.2)])
    have r0 : w5.cell? ⟨w.heap.size + 1 + 1, 0, none⟩ = some (.int .i64 0) := HB35.out.cell 0
    have rf0 := HB35.out.frozen 0
    have r1 : w5.cell? ⟨w.heap.size + 1 + 1, 1, none⟩ = some (.int .i64 0) := HB35.out.cell 1
    have rf1 := HB35.out.frozen 1
    have r2 : w5.cell? ⟨w.heap.size + 1 + 1, 2, none⟩ = some (.slice none 0 0) := HB35.out.cell 2
    have rf2 := HB35.out.frozen 2
    go_wp2_with fail
    refine bodyPost_ret (bd_results rfl (put3S_blk HB35.out _ _ _) _ rfl) rfl ⟨none, 0, 0, ?_, ?_, put3S_keep HK5.out (.inr (by omega)) _ _ _⟩
    · rw [HF.out]; rfl
    · rw [HF.out]; exact Own.nil _ _ _ _
  | true =>
  have HFt : Hid (takeM (sn, gt, l) (k0, tr, tt, un, ln, h) = if tt ≤ gt then (noX, 110) else if 48 < (haveM (sn, gt, l) (k0, tr, tt, un, ln, h)).length then (noX, 1) else ((sn, tt, haveM (sn, gt, l) (k0, tr, tt, un, ln, h)), 0)) := Lib.hid (by unfold takeM; rw [if_pos ⟨HRx.out, HMx.out⟩])
  have HHv : Hid (haveM (sn, gt, l) (k0, tr, tt, un, ln, h) = (l.filter fun h : Len => decide (k0 ≠ 2) || (h.1.2.1 != tr)) ++ ln.map fun k => (k, un)) := Lib.hid (haveM_doc HMx.out)
  have HN48 : Hid (n ≤ 48) := Lib.hid (by have h1 := HRx.out; rw [rightX_eq] at h1; simp only [Bool.and_eq_true, decide_eq_true_eq] at h1; have := HLn.out; omega)
  have HN24 : Hid (n1 ≤ 24) := Lib.hid (by have h1 := (mayN_iff.1 HMx.out).few; have := HN1.out; simp only at h1; omega)
  have x0 : w5.cell? ⟨w.heap.size, 0, none⟩ = some (.int .i64 sn) := HB15.out.cell 0
  have x1 : w5.cell? ⟨w.heap.size, 1, none⟩ = some (.int .i64 gt) := HB15.out.cell 1
  have x2 : w5.cell? ⟨w.heap.size, 2, none⟩ = some (.slice A n c) := HB15.out.cell 2
  have m0 : w5.cell? ⟨w.heap.size + 1, 0, none⟩ = some (.int .i64 k0) := HB25.out.cell 0
  have m1 : w5.cell? ⟨w.heap.size + 1, 1, none⟩ = some (.int .i64 tr) := HB25.out.cell 1
  have m2 : w5.cell? ⟨w.heap.size + 1, 2, none⟩ = some (.int .i64 tt) := HB25.out.cell 2
  have m3 : w5.cell? ⟨w.heap.size + 1, 3, none⟩ = some (.int .i64 un) := HB25.out.cell 3
  have m4 : w5.cell? ⟨w.heap.size + 1, 4, none⟩ = some (.slice A1 n1 c1) := HB25.out.cell 4
  have m5 : w5.cell? ⟨w.heap.size + 1, 5, none⟩ = some (.slice A2 n2 c2) := HB25.out.cell 5
  by_cases g1 : tt ≤ gt
  · have t1 : decide (tt ≤ gt) = true := decide_eq_true g1
    have HF : Hid (takeM (sn, gt, l) (k0, tr, tt, un, ln, h) = (noX, 110)) := Lib.hid (by rw [HFt.out, if_pos g1])
    clear g1
    have r0 : w5.cell? ⟨w.heap.size + 1 + 1, 0, none⟩ = some (.int .i64 0) := HB35.out.cell 0
    have rf0 := HB35.out.frozen 0
    have r1 : w5.cell? ⟨w.heap.size + 1 + 1, 1, none⟩ = some (.int .i64 0) := HB35.out.cell 1
    have rf1 := HB35.out.frozen 1
    have r2 : w5.cell? ⟨w.heap.size + 1 + 1, 2, none⟩ = some (.slice none 0 0) := HB35.out.cell 2
    have rf2 := HB35.out.frozen 2
    go_wp2_with fail
    refine bodyPost_ret (bd_results rfl (put3S_blk HB35.out _ _ _) _ rfl) rfl ⟨none, 0, 0, ?_, ?_, put3S_keep HK5.out (.inr (by omega)) _ _ _⟩
    · rw [HF.out]; rfl
    · rw [HF.out]; exact Own.nil _ _ _ _
  have t1 : decide (tt ≤ gt) = false := decide_eq_false g1
  have HFh : Hid (takeM (sn, gt, l) (k0, tr, tt, un, ln, h) = if 48 < (haveM (sn, gt, l) (k0, tr, tt, un, ln, h)).length then (noX, 1) else ((sn, tt, haveM (sn, gt, l) (k0, tr, tt, un, ln, h)), 0)) := Lib.hid (by rw [HFt.out, if_neg g1])
  clear g1 HFt
  have z0 : (w5.alloc (.cells #[.int .i64 0, .int .i64 0, .slice none 0 0] 30)).cell? ⟨w5.heap.size, 0, none⟩ = some (.int .i64 0) := (Blk.new w5 30 #[.int .i64 0, .int .i64 0, .slice none 0 0]).cell 0
  have zf0 := (Blk.new w5 30 #[.int .i64 0, .int .i64 0, .slice none 0 0]).frozen 0
  have z1 : (w5.alloc (.cells #[.int .i64 0, .int .i64 0, .slice none 0 0] 30)).cell? ⟨w5.heap.size, 1, none⟩ = some (.int .i64 0) := (Blk.new w5 30 #[.int .i64 0, .int .i64 0, .slice none 0 0]).cell 1
  have zf1 := (Blk.new w5 30 #[.int .i64 0, .int .i64 0, .slice none 0 0]).frozen 1
  have z2 : (w5.alloc (.cells #[.int .i64 0, .int .i64 0, .slice none 0 0] 30)).cell? ⟨w5.heap.size, 2, none⟩ = some (.slice none 0 0) := (Blk.new w5 30 #[.int .i64 0, .int .i64 0, .slice none 0 0]).cell 2
  have zf2 := (Blk.new w5 30 #[.int .i64 0, .int .i64 0, .slice none 0 0]).frozen 2
  go_upto_region 8 with (fail)
  clear z0 z1 z2 zf0 zf1 zf2 t1 x0 x1 x2 m0 m1 m2 m3 m4 m5
  obtain ⟨w6, hw6⟩ : ∃ V : World, w5.alloc (.cells #[.int .i64 sn, .int .i64 tt, .slice none 0 0] 30) = V := ⟨_, rfl⟩
  have k6 : Keep Never w5 w6 := (by rw [← hw6]; exact (Keep.refl _ _).alloc _)
  have B6 := Blk.new w5 30 #[.int .i64 sn, .int .i64 tt, .slice none 0 0]
  rw [hw6] at B6 ⊢
  obtain ⟨bo, hbo⟩ : ∃ q, w5.heap.size = q := ⟨_, rfl⟩
  rw [hbo] at B6 ⊢
  have HK6 := Lib.hid (HK5.out.trans k6)
  have HB16 := Lib.hid (HB15.out.keep k6 (fun h => h))
  have HB26 := Lib.hid (HB25.out.keep k6 (fun h => h))
  have HB36 := Lib.hid (HB35.out.keep k6 (fun h => h))
  have HO6 := Lib.hid B6
  have HBo : Hid (w.heap.size ≤ bo ∧ bo ≠ w.heap.size ∧ bo ≠ w.heap.size + 1 ∧ bo ≠ w.heap.size + 1 + 1) := Lib.hid ⟨by rw [← hbo]; exact HK5.out.size, by have := HB15.out.lt; omega, by have := HB25.out.lt; omega, by have := HB35.out.lt; omega⟩
  clear k6 B6 hw6 hbo
  go_wp2_with fail
  go_loopw [9] (fun i wr => ∃ (k no co : Nat) (Ao : Option Addr), k ≤ n ∧ i = .int .i64 k ∧ no ≤ k ∧ Hid (Keep Never w wr ∧ Blk wr w.heap.size 30 #[.int .i64 sn, .int .i64 gt, .slice A n c] ∧ Blk wr (w.heap.size + 1) 34 #[.int .i64 k0, .int .i64 tr, .int .i64 tt, .int .i64 un, .slice A1 n1 c1, .slice A2 n2 c2] ∧ Blk wr (w.heap.size + 1 + 1) 30 #[.int .i64 0, .int .i64 0, .slice none 0 0] ∧ Blk wr bo 30 #[.int .i64 sn, .int .i64 tt, .slice Ao no co] ∧ Own wr w.heap.size 59 4 Ao no co (leCells ((l.take k).filter fun h : Len => decide (k0 ≠ 2) || (h.1.2.1 != tr))))) (fun i _ => n - (intOf i).toNat)
  case atStart => exact ⟨0, 0, 0, none, by omega, rfl, by omega, Lib.hid ⟨HK6.out, HB16.out, HB26.out, HB36.out, HO6.out, Own.nil _ _ _ _⟩⟩
  case round =>
    obtain ⟨k, no, co, Ao, hk, rfl, hno, HH⟩ := hrel
    have HKr := Lib.hid HH.out.1
    have HB1r := Lib.hid HH.out.2.1
    have HB2r := Lib.hid HH.out.2.2.1
    have HB3r := Lib.hid HH.out.2.2.2.1
    have HBor := Lib.hid HH.out.2.2.2.2.1
    have HOr := Lib.hid HH.out.2.2.2.2.2
    clear HH
    have hn48 : n ≤ 48 := HN48.out
    have hn24 : n1 ≤ 24 := HN24.out
    have x0 : wr.cell? ⟨w.heap.size, 0, none⟩ = some (.int .i64 sn) := HB1r.out.cell 0
    have x1 : wr.cell? ⟨w.heap.size, 1, none⟩ = some (.int .i64 gt) := HB1r.out.cell 1
    have x2 : wr.cell? ⟨w.heap.size, 2, none⟩ = some (.slice A n c) := HB1r.out.cell 2
    by_cases h0 : k < n
    · have hki : (k : Int) < (n : Int) := by omega
      obtain ⟨ad, s, hA, hab, hs, d0, d1, d2, d3⟩ := (HLx.out.keep HKr.out).rd.le h0
      subst hA
      have HTk := Lib.hid (filter_takeT hs (fun h : Len => decide (k0 ≠ 2) || (h.1.2.1 != tr)))
      clear hs hab
      obtain ⟨⟨s1, s2, s3⟩, s4⟩ := s
      simp only at d0 d1 d2 d3 HTk
      have Hd0 := Lib.hid d0
      have Hd1 := Lib.hid d1
      have Hd2 := Lib.hid d2
      have Hd3 := Lib.hid d3
      have m0 : wr.cell? ⟨w.heap.size + 1, 0, none⟩ = some (.int .i64 k0) := HB2r.out.cell 0
      have m1 : wr.cell? ⟨w.heap.size + 1, 1, none⟩ = some (.int .i64 tr) := HB2r.out.cell 1
      have m2 : wr.cell? ⟨w.heap.size + 1, 2, none⟩ = some (.int .i64 tt) := HB2r.out.cell 2
      have m3 : wr.cell? ⟨w.heap.size + 1, 3, none⟩ = some (.int .i64 un) := HB2r.out.cell 3
      have m4 : wr.cell? ⟨w.heap.size + 1, 4, none⟩ = some (.slice A1 n1 c1) := HB2r.out.cell 4
      have m5 : wr.cell? ⟨w.heap.size + 1, 5, none⟩ = some (.slice A2 n2 c2) := HB2r.out.cell 5
      have hcs : (k0 != 2) = true ∨ ((k0 != 2) = false ∧ (s2 != tr) = true) ∨ ((k0 != 2) = false ∧ (s2 != tr) = false) := by
        cases h1 : (k0 != 2) <;> cases h2 : (s2 != tr) <;> simp
      have HFv : Hid ((decide (k0 ≠ 2) || (s2 != tr)) = ((k0 != 2) || (s2 != tr))) := Lib.hid (by congr 1; by_cases e : k0 = 2 <;> simp [e])
      rcases hcs with ta | ⟨ta, tb⟩ | ⟨ta, tb⟩
      rotate_left 2
      · have HTn : Hid ((l.take (k + 1)).filter (fun h : Len => decide (k0 ≠ 2) || (h.1.2.1 != tr)) = (l.take k).filter (fun h : Len => decide (k0 ≠ 2) || (h.1.2.1 != tr))) := Lib.hid (by rw [HTk.out, HFv.out, ta, tb, if_neg (by simp), List.append_nil])
        clear HTk
        go_wp2_with fail
        go_quiet (fail)
        go_wp2_with fail
        obtain ⟨wd, hwd⟩ : ∃ V : World, wr.drewN nq = V := ⟨_, rfl⟩
        (try rw [hwd])
        have hkd : Keep Never wr wd := by rw [← hwd]; exact (Keep.refl Never _).drewN _
        clear hwd
        refine ⟨⟨k + 1, no, co, Ao, by omega, by go_num, by omega, Lib.hid ⟨HKr.out.trans hkd, HB1r.out.keep hkd (fun h => h), HB2r.out.keep hkd (fun h => h), HB3r.out.keep hkd (fun h => h), HBor.out.keep hkd (fun h => h), by rw [HTn.out]; exact HOr.out.keep hkd (fun _ _ h => h)⟩⟩, ?_⟩
        simp [intOf]; try omega
      all_goals
        have HTn : Hid ((l.take (k + 1)).filter (fun h : Len => decide (k0 ≠ 2) || (h.1.2.1 != tr)) = (l.take k).filter (fun h : Len => decide (k0 ≠ 2) || (h.1.2.1 != tr)) ++ [((s1, s2, s3), s4)]) := Lib.hid (by rw [HTk.out, HFv.out, if_pos (by first | (rw [ta]; rfl) | (rw [tb]; simp))])
        clear HTk
        go_wp2_with fail
        go_quiet (fail)
        obtain ⟨wd, hwd⟩ : ∃ V : World, wr.drewN nq = V := ⟨_, rfl⟩
        (try rw [hwd])
        have hkd : Keep Never wr wd := by rw [← hwd]; exact (Keep.refl Never _).drewN _
        clear hwd
        have HKd := Lib.hid (HKr.out.trans hkd)
        have HB1d := Lib.hid (HB1r.out.keep hkd (fun h => h))
        have HB2d := Lib.hid (HB2r.out.keep hkd (fun h => h))
        have HB3d := Lib.hid (HB3r.out.keep hkd (fun h => h))
        have HBod := Lib.hid (HBor.out.keep hkd (fun h => h))
        have HOd := Lib.hid (HOr.out.keep hkd (fun _ _ h => h))
        clear x0 x1 x2 m0 m1 m2 m3 m4 m5 d0 d1 d2 d3 ta
        (try clear tb)
        have x0 : wd.cell? ⟨w.heap.size, 0, none⟩ = some (.int .i64 sn) := HB1d.out.cell 0
        have x1 : wd.cell? ⟨w.heap.size, 1, none⟩ = some (.int .i64 gt) := HB1d.out.cell 1
        have x2 : wd.cell? ⟨w.heap.size, 2, none⟩ = some (.slice (some ad) n c) := HB1d.out.cell 2
        have d0 : wd.cell? (ad.add (k * 4)) = some (.int .i64 s1) := keepT hkd Hd0.out
        have d1 : wd.cell? ⟨(ad.add (k * 4)).block, (ad.add (k * 4)).off + 1, none⟩ = some (.int .i64 s2) := keepT hkd Hd1.out
        have d2 : wd.cell? ⟨(ad.add (k * 4)).block, (ad.add (k * 4)).off + 2, none⟩ = some (.int .i64 s3) := keepT hkd Hd2.out
        have d3 : wd.cell? ⟨(ad.add (k * 4)).block, (ad.add (k * 4)).off + 3, none⟩ = some (.int .i64 s4) := keepT hkd Hd3.out
        have x2a : ∀ o, (wd.alloc o).cell? ⟨w.heap.size, 2, none⟩ = some (.slice (some ad) n c) := fun o => keepT ((Keep.refl Never wd).alloc o) x2
        have o2 : wd.cell? ⟨bo, 2, none⟩ = some (.slice Ao no co) := HBod.out.cell 2
        have o2a : ∀ o, (wd.alloc o).cell? ⟨bo, 2, none⟩ = some (.slice Ao no co) := fun o => keepT ((Keep.refl Never wd).alloc o) o2
        clear hkd
        have hsz : w.heap.size ≤ wd.heap.size := HKd.out.size
        go_upto_region 12 with (fail)
        go_region_law (refine step_app _ rfl (.tmp 56) (.tmp 62) _ rfl elemLe w.heap.size (A := Ao) (n := no) (c := co) (by go_simp) (HOd.out.alloc _) _ (A' := some ⟨_, 0, none⟩) (m := 1) (c' := 1) (news := [.int .i64 s1, .int .i64 s2, .int .i64 s3, .int .i64 s4]) (by go_simp) (Rd.of_blk (n := 1) (cs := [.int .i64 s1, .int .i64 s2, .int .i64 s3, .int .i64 s4]) (Blk.new _ _ _) rfl) (by simp [Value.oneCell']) (by omega) (by unfold maxLen; omega) (by simp; omega) ?_; intro A5 c5 w16 hown hk hrow; have hk16 : Keep (InRow Ao) wd w16 := (by first | exact (((Keep.refl (InRow Ao) wd).alloc _).drew).trans hk | exact (((Keep.refl (InRow Ao) wd).drew).alloc _).trans hk | exact ((Keep.refl (InRow Ao) wd).alloc _).trans hk); have HO16 := Lib.hid hown; have HK16 := Lib.hid (HKd.out.then_ hk16 (fun i hi h => by have := (HOd.out.row h).1; omega)); have HB116 := Lib.hid (HB1d.out.keep hk16 (fun h => HOd.out.ne_blk HB1d.out (by decide) _ h rfl)); have HB216 := Lib.hid (HB2d.out.keep hk16 (fun h => HOd.out.ne_blk HB2d.out (by decide) _ h rfl)); have HB316 := Lib.hid (HB3d.out.keep hk16 (fun h => HOd.out.ne_blk HB3d.out (by decide) _ h rfl)); have HBo16 := Lib.hid (HBod.out.keep hk16 (fun h => HOd.out.ne_blk HBod.out (by decide) _ h rfl)); have o2b := HBo16.out.cell 2; have f2 := HBo16.out.frozen 2; clear hown hk hrow hk16)
        all_goals
          have hk17 : Keep (fun i => i = bo) w16 (w16.setCell ⟨bo, 2, none⟩ (.slice A5 (no + 1) c5)) := (Keep.refl (fun i => i = bo) w16).set_ (p := ⟨bo, 2, none⟩) (.inl rfl) _
          have HK17 := Lib.hid (HK16.out.then_ hk17 (fun i hi e => by have := HBo.out.1; omega))
          have HB117 := Lib.hid (HB116.out.keep hk17 (fun h => HBo.out.2.1 h.symm))
          have HB217 := Lib.hid (HB216.out.keep hk17 (fun h => HBo.out.2.2.1 h.symm))
          have HB317 := Lib.hid (HB316.out.keep hk17 (fun h => HBo.out.2.2.2 h.symm))
          have HBo17 : Hid (Blk (w16.setCell ⟨bo, 2, none⟩ (.slice A5 (no + 1) c5)) bo 30 #[.int .i64 sn, .int .i64 tt, .slice A5 (no + 1) c5]) := Lib.hid (by have := HBo16.out.set_ 2 (.slice A5 (no + 1) c5); simpa using this)
          have HO17 : Hid (Own (w16.setCell ⟨bo, 2, none⟩ (.slice A5 (no + 1) c5)) w.heap.size 59 4 A5 (no + 1) c5 (leCells ((l.take (k + 1)).filter fun h : Len => decide (k0 ≠ 2) || (h.1.2.1 != tr)))) := Lib.hid (by
            rw [HTn.out, leCells_app]
            exact HO16.out.far (p := ⟨bo, 2, none⟩) (HO16.out.ne_blk HBo16.out (by decide)) _)
          clear hk17 o2 o2a o2b f2 x0 x1 x2 x2a d0 d1 d2 d3
          go_wp2_with fail
          refine ⟨⟨k + 1, no + 1, c5, A5, by omega, by go_num, by omega, Lib.hid ⟨HK17.out, HB117.out, HB217.out, HB317.out, HBo17.out, HO17.out⟩⟩, ?_⟩
          simp [intOf]; try omega
    · obtain rfl : k = n := by omega
      have hki : ¬ (k : Int) < (k : Int) := by omega
      obtain ⟨L2, hL2⟩ : ∃ z, (l.filter fun h : Len => decide (k0 ≠ 2) || (h.1.2.1 != tr)) = z := ⟨_, rfl⟩
      have HOf : Hid (Own wr w.heap.size 59 4 Ao no co (leCells L2)) := Lib.hid (by have h1 := HOr.out; rw [List.take_of_length_le (by have := HLn.out; omega), hL2] at h1; exact h1)
      rw [hL2] at HHv
      clear hL2 HOr
      have hno48 : no ≤ 48 := by omega
      rename World => wq
      go_wp2_with fail
      clear x0 x1 x2
      go_loopw [10] (fun i wz => ∃ (j ng co : Nat) (Ao : Option Addr), j ≤ n1 ∧ i = .int .i64 j ∧ Hid (ng = no + j) ∧ Hid (Keep Never w wz ∧ Blk wz (w.heap.size + 1) 34 #[.int .i64 k0, .int .i64 tr, .int .i64 tt, .int .i64 un, .slice A1 n1 c1, .slice A2 n2 c2] ∧ Blk wz (w.heap.size + 1 + 1) 30 #[.int .i64 0, .int .i64 0, .slice none 0 0] ∧ Blk wz bo 30 #[.int .i64 sn, .int .i64 tt, .slice Ao ng co] ∧ Own wz w.heap.size 59 4 Ao ng co (leCells (L2 ++ (ln.take j).map fun k => (k, un))))) (fun i _ => n1 - (intOf i).toNat)
      case atStart => exact ⟨0, no, co, Ao, by omega, rfl, Lib.hid rfl, Lib.hid ⟨HKr.out, HB2r.out, HB3r.out, HBor.out, by have h1 := HOf.out; simpa using h1⟩⟩
      case round =>
        obtain ⟨j, ng, co, Ao, hj, rfl, hng, HH⟩ := hrel
        have HKz := Lib.hid HH.out.1
        have HB2z := Lib.hid HH.out.2.1
        have HB3z := Lib.hid HH.out.2.2.1
        have HBoz := Lib.hid HH.out.2.2.2.1
        have HOz := Lib.hid HH.out.2.2.2.2
        clear HH
        rename World => wz
        have hng72 : ng ≤ 72 := by have := hng.out; omega
        have m0 : wz.cell? ⟨w.heap.size + 1, 0, none⟩ = some (.int .i64 k0) := HB2z.out.cell 0
        have m1 : wz.cell? ⟨w.heap.size + 1, 1, none⟩ = some (.int .i64 tr) := HB2z.out.cell 1
        have m2 : wz.cell? ⟨w.heap.size + 1, 2, none⟩ = some (.int .i64 tt) := HB2z.out.cell 2
        have m3 : wz.cell? ⟨w.heap.size + 1, 3, none⟩ = some (.int .i64 un) := HB2z.out.cell 3
        have m4 : wz.cell? ⟨w.heap.size + 1, 4, none⟩ = some (.slice A1 n1 c1) := HB2z.out.cell 4
        have m5 : wz.cell? ⟨w.heap.size + 1, 5, none⟩ = some (.slice A2 n2 c2) := HB2z.out.cell 5
        by_cases h0 : j < n1
        · have hji : (j : Int) < (n1 : Int) := by omega
          obtain ⟨ad, s, hA, hab, hs, d0, d1, d2⟩ := (HLl.out.keep HKz.out).rd.sp h0
          subst hA
          obtain ⟨s1, s2, s3⟩ := s
          simp only at d0 d1 d2
          have HTk : Hid ((ln.take (j + 1)).map (fun k => ((k, un) : Len)) = (ln.take j).map (fun k => ((k, un) : Len)) ++ [((s1, s2, s3), un)]) := Lib.hid (by rw [List.take_add_one, hs]; simp)
          clear hs hab
          have hsz : w.heap.size ≤ wz.heap.size := HKz.out.size
          have m3a : ∀ o, (wz.alloc o).cell? ⟨w.heap.size + 1, 3, none⟩ = some (.int .i64 un) := fun o => keepT ((Keep.refl Never wz).alloc o) m3
          have m4a : ∀ o, (wz.alloc o).cell? ⟨w.heap.size + 1, 4, none⟩ = some (.slice (some ad) n1 c1) := fun o => keepT ((Keep.refl Never wz).alloc o) m4
          have o2 : wz.cell? ⟨bo, 2, none⟩ = some (.slice Ao ng co) := HBoz.out.cell 2
          have o2a : ∀ o, (wz.alloc o).cell? ⟨bo, 2, none⟩ = some (.slice Ao ng co) := fun o => keepT ((Keep.refl Never wz).alloc o) o2
          go_upto_region 16 with (fail)
          go_region_law (refine step_app _ rfl (.tmp 73) (.tmp 82) _ rfl elemLe w.heap.size (A := Ao) (n := ng) (c := co) (by go_simp) (HOz.out.alloc _) _ (A' := some ⟨_, 0, none⟩) (m := 1) (c' := 1) (news := [.int .i64 s1, .int .i64 s2, .int .i64 s3, .int .i64 un]) (by go_simp) (Rd.of_blk (n := 1) (cs := [.int .i64 s1, .int .i64 s2, .int .i64 s3, .int .i64 un]) (Blk.new _ _ _) rfl) (by simp [Value.oneCell']) (by omega) (by unfold maxLen; omega) (by simp; omega) ?_; intro A5 c5 w16 hown hk hrow; have hk16 : Keep (InRow Ao) wz w16 := (by first | exact (((Keep.refl (InRow Ao) wz).alloc _).drew).trans hk | exact (((Keep.refl (InRow Ao) wz).drew).alloc _).trans hk | exact ((Keep.refl (InRow Ao) wz).alloc _).trans hk); have HO16 := Lib.hid hown; have HK16 := Lib.hid (HKz.out.then_ hk16 (fun i hi h => by have := (HOz.out.row h).1; omega)); have HB216 := Lib.hid (HB2z.out.keep hk16 (fun h => HOz.out.ne_blk HB2z.out (by decide) _ h rfl)); have HB316 := Lib.hid (HB3z.out.keep hk16 (fun h => HOz.out.ne_blk HB3z.out (by decide) _ h rfl)); have HBo16 := Lib.hid (HBoz.out.keep hk16 (fun h => HOz.out.ne_blk HBoz.out (by decide) _ h rfl)); have o2b := HBo16.out.cell 2; have f2 := HBo16.out.frozen 2; clear hown hk hrow hk16)
          all_goals
            have hk17 : Keep (fun i => i = bo) w16 (w16.setCell ⟨bo, 2, none⟩ (.slice A5 (ng + 1) c5)) := (Keep.refl (fun i => i = bo) w16).set_ (p := ⟨bo, 2, none⟩) (.inl rfl) _
            have HK17 := Lib.hid (HK16.out.then_ hk17 (fun i hi e => by have := HBo.out.1; omega))
            have HB217 := Lib.hid (HB216.out.keep hk17 (fun h => HBo.out.2.2.1 h.symm))
            have HB317 := Lib.hid (HB316.out.keep hk17 (fun h => HBo.out.2.2.2 h.symm))
            have HBo17 : Hid (Blk (w16.setCell ⟨bo, 2, none⟩ (.slice A5 (ng + 1) c5)) bo 30 #[.int .i64 sn, .int .i64 tt, .slice A5 (ng + 1) c5]) := Lib.hid (by have := HBo16.out.set_ 2 (.slice A5 (ng + 1) c5); simpa using this)
            have HO17 : Hid (Own (w16.setCell ⟨bo, 2, none⟩ (.slice A5 (ng + 1) c5)) w.heap.size 59 4 A5 (ng + 1) c5 (leCells (L2 ++ (ln.take (j + 1)).map fun k => (k, un)))) := Lib.hid (by
              rw [HTk.out, ← List.append_assoc, leCells_app]
              exact HO16.out.far (p := ⟨bo, 2, none⟩) (HO16.out.ne_blk HBo16.out (by decide)) _)
            clear hk17 o2 o2a o2b f2 m0 m1 m2 m3 m4 m5 m3a m4a d0 d1 d2
            go_wp2_with fail
            refine ⟨⟨j + 1, ng + 1, c5, A5, by omega, by go_num, Lib.hid (by have := hng.out; omega), Lib.hid ⟨HK17.out, HB217.out, HB317.out, HBo17.out, HO17.out⟩⟩, ?_⟩
            simp [intOf]; try omega
        · obtain rfl : j = n1 := by omega
          have hji : ¬ (j : Int) < (j : Int) := by omega
          have HTk : Hid (ln.take j = ln) := Lib.hid (List.take_of_length_le (by have := HN1.out; omega))
          have HHl : Hid ((haveM (sn, gt, l) (k0, tr, tt, un, ln, h)).length = ng) := Lib.hid (by rw [HHv.out]; have h1 := HOz.out.rd.le_len; rwa [HTk.out] at h1)
          have o0 : wz.cell? ⟨bo, 0, none⟩ = some (.int .i64 sn) := HBoz.out.cell 0
          have o1 : wz.cell? ⟨bo, 1, none⟩ = some (.int .i64 tt) := HBoz.out.cell 1
          have o2 : wz.cell? ⟨bo, 2, none⟩ = some (.slice Ao ng co) := HBoz.out.cell 2
          by_cases g3 : 48 < ng
          · have t3 : decide ((ng : Int) > 48) = true := decide_eq_true (by omega)
            have HF : Hid (takeM (sn, gt, l) (k0, tr, tt, un, ln, h) = (noX, 1)) := Lib.hid (by rw [HFh.out, HHl.out, if_pos g3])
            clear g3
            have r0 : wz.cell? ⟨w.heap.size + 1 + 1, 0, none⟩ = some (.int .i64 0) := HB3z.out.cell 0
            have rf0 := HB3z.out.frozen 0
            have r1 : wz.cell? ⟨w.heap.size + 1 + 1, 1, none⟩ = some (.int .i64 0) := HB3z.out.cell 1
            have rf1 := HB3z.out.frozen 1
            have r2 : wz.cell? ⟨w.heap.size + 1 + 1, 2, none⟩ = some (.slice none 0 0) := HB3z.out.cell 2
            have rf2 := HB3z.out.frozen 2
            go_wp2_with fail
            refine bodyPost_ret (bd_results rfl (put3S_blk HB3z.out _ _ _) _ rfl) rfl ⟨none, 0, 0, ?_, ?_, put3S_keep HKz.out (.inr (by omega)) _ _ _⟩
            · rw [HF.out]; rfl
            · rw [HF.out]; exact Own.nil _ _ _ _
          · have t3 : decide ((ng : Int) > 48) = false := decide_eq_false (by omega)
            have HF : Hid (takeM (sn, gt, l) (k0, tr, tt, un, ln, h) = ((sn, tt, L2 ++ (ln.take j).map fun k => (k, un)), 0)) := Lib.hid (by rw [HFh.out, HHl.out, if_neg g3, HHv.out, HTk.out])
            clear g3
            have r0 : wz.cell? ⟨w.heap.size + 1 + 1, 0, none⟩ = some (.int .i64 0) := HB3z.out.cell 0
            have rf0 := HB3z.out.frozen 0
            have r1 : wz.cell? ⟨w.heap.size + 1 + 1, 1, none⟩ = some (.int .i64 0) := HB3z.out.cell 1
            have rf1 := HB3z.out.frozen 1
            have r2 : wz.cell? ⟨w.heap.size + 1 + 1, 2, none⟩ = some (.slice none 0 0) := HB3z.out.cell 2
            have rf2 := HB3z.out.frozen 2
            go_wp2_with fail
            refine bodyPost_ret (bd_results rfl (put3S_blk HB3z.out _ _ _) _ rfl) rfl ⟨Ao, ng, co, ?_, ?_, put3S_keep HKz.out (.inr (by omega)) _ _ _⟩
            · rw [HF.out]; rfl
            · rw [HF.out]; exact HOz.out.keep (put3S_keep (Keep.refl (fun i => i = w.heap.size + 1 + 1) wz) (.inl rfl) _ _ _) (HOz.out.ne_blk HB3z.out (by decide))


end Go.Proofs.YtpahfobijmmmmaaGreat
