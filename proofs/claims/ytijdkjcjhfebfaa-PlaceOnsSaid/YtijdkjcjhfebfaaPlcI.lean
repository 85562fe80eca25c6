/- Chapter 13: the document's After. -/
import Derived.Test.YtijdkjcjhfebfaaAftB
namespace Go.Proofs.Ytijdkjcjhfebfaa
open Go.RowKit

set_option maxHeartbeats 8000000 in
set_option maxRecDepth 100000 in
theorem rafter_any (x : TA) (t : Tp) (B : Nat) (s : Stp) (w : World) (h : TpAt w B x t) (hj : x.nj ≤ 100000000) (he : x.ne ≤ 100000000) :
    Calls Try.prog 41 #[.agg x.cs, .agg #[.int .i64 s.1, .bool s.2]] w (AftRet (afterM t s) w) := by
  have HE := Lib.hid (fun (i : Int) (W : World) => redge_any x i W)
  have HM := Lib.hid (fun (W : World) (hk : Keep Never w W) (a b : Stp) => rmay_any x t B a b W (h.keep hk) hj)
  have HEl : Hid (x.ne = t.1.length) := Lib.hid h.e.len
  obtain ⟨Ae, ne, ce, Aj, nj, cj, Ab, nb, cb, Ar, nr, cr⟩ := x
  obtain ⟨s1, s2⟩ := s
  simp only [TA.cs] at HE HM HEl he hj ⊢
  clear h
  obtain ⟨w1, hw1⟩ : ∃ V : World, w.alloc (.cells #[.slice Ae ne ce, .slice Aj nj cj, .slice Ab nb cb, .slice Ar nr cr] 27) = V := ⟨_, rfl⟩
  have zw1 : w1.heap.size = w.heap.size + 1 := by rw [← hw1]; simp
  have kw1 : Keep Never w w1 := by rw [← hw1]; exact (Keep.refl _ _).alloc _
  have bw1 := Blk.new w 27 #[.slice Ae ne ce, .slice Aj nj cj, .slice Ab nb cb, .slice Ar nr cr]
  rw [hw1] at bw1
  obtain ⟨w2, hw2⟩ : ∃ V : World, w1.alloc (.cells #[.int .i64 s1, .bool s2] 45) = V := ⟨_, rfl⟩
  have kw2 : Keep Never w1 w2 := by rw [← hw2]; exact (Keep.refl _ _).alloc _
  have bw2 := Blk.new w1 45 #[.int .i64 s1, .bool s2]
  rw [hw2, zw1] at bw2
  have HB1 := Lib.hid (bw1.keep kw2 (fun h => h))
  have HB2 := Lib.hid bw2
  have HK := Lib.hid (kw1.trans kw2)
  clear kw1 kw2 bw1 bw2
  have y0 : w2.cell? ⟨w.heap.size, 0, none⟩ = some (.slice Ae ne ce) := HB1.out.cell 0
  have y1 : w2.cell? ⟨w.heap.size, 1, none⟩ = some (.slice Aj nj cj) := HB1.out.cell 1
  have y2 : w2.cell? ⟨w.heap.size, 2, none⟩ = some (.slice Ab nb cb) := HB1.out.cell 2
  have y3 : w2.cell? ⟨w.heap.size, 3, none⟩ = some (.slice Ar nr cr) := HB1.out.cell 3
  have p0 : w2.cell? ⟨w.heap.size + 1, 0, none⟩ = some (.int .i64 s1) := HB2.out.cell 0
  have p1 : w2.cell? ⟨w.heap.size + 1, 1, none⟩ = some (.bool s2) := HB2.out.cell 1
  have HLo : Hid (w2.heap.size = w.heap.size + 2) := Lib.hid (by rw [← hw2, ← hw1]; simp)
  have HC := Lib.hid (HE.out s1 w2)
  cases ht : thereB ne s1 with
  | false =>
    have HF : Hid (afterM t (s1, s2) = []) := Lib.hid (by unfold afterM; rw [if_neg (by simp only; rw [← HEl.out, ht]; simp)])
    rw [ht] at HC
    clear ht
    go_enter Try.func41, Try.ntmps41
    go_wp2_with fail
    refine HC.out.mono ?_
    rintro en w4 ⟨rfl, hk4⟩
    have HK4 := Lib.hid (HK.out.trans hk4)
    clear hk4 HC y0 y1 y2 y3 p0 p1
    go_wp2_with fail
    go_ret
    exact ⟨none, 0, 0, rfl, Lib.hid (by rw [HF.out]; rfl), by rw [HF.out]; exact Own.nil _ _ _ _, HK4.out⟩
  | true =>
    have HF : Hid (afterM t (s1, s2) = listM t.2.1 (s1, s2) ne) := Lib.hid (by unfold afterM; rw [if_pos (by simp only; rw [← HEl.out, ht]), HEl.out])
    rw [ht] at HC
    clear ht
    go_enter Try.func41, Try.ntmps41
    go_wp2_with fail
    refine HC.out.mono ?_
    rintro en w4 ⟨rfl, hk4⟩
    have HK4 := Lib.hid hk4
    clear hk4 HC y0 y1 y2 y3 p0 p1 hw1 hw2 zw1
    go_wp2_with fail
    go_loopw [6, 7, 8, 9, 10, 11] (fun o i _ _ _ _ wr => ∃ (k n c : Nat) (A : Option Addr), k ≤ ne ∧ i = .int .i64 k ∧ o = .slice A n c ∧ Hid (Keep Never w2 wr ∧ Own wr w2.heap.size 45 2 A n c (stpCells (listM t.2.1 (s1, s2) k)) ∧ n = (listM t.2.1 (s1, s2) k).length)) (fun _ i _ _ _ _ _ => ne - (intOf i).toNat)
    case atStart => exact ⟨0, 0, 0, none, by omega, rfl, rfl, Lib.hid ⟨HK4.out, Own.nil _ _ _ _, rfl⟩⟩
    case round =>
      obtain ⟨k, n, c, A, hk, rfl, rfl, HH⟩ := hrel
      have y0 : wr.cell? ⟨w.heap.size, 0, none⟩ = some (.slice Ae ne ce) := (HB1.out.keep HH.out.1 (fun h => h)).cell 0
      by_cases h0 : k < ne
      · have hkz : (k : Int) < (ne : Int) := by omega
        obtain ⟨br, hbr⟩ : ∃ q, wr.heap.size = q := ⟨_, rfl⟩
        have hbr2 : w.heap.size + 2 ≤ br := by rw [← hbr, ← HLo.out]; exact HH.out.1.size
        have HBr := Lib.hid hbr2
        obtain ⟨w7, hw7⟩ : ∃ V : World, (wr.alloc (.cells #[.int .i64 ((k : Nat) : Int), .bool false] 45)).alloc (.cells #[.int .i64 ((k : Nat) : Int), .bool true] 45) = V := ⟨_, rfl⟩
        have k7 : Keep Never wr w7 := by rw [← hw7]; exact ((Keep.refl _ _).alloc _).alloc _
        have ba := (Blk.new wr 45 #[.int .i64 ((k : Nat) : Int), .bool false]).alloc (.cells #[.int .i64 ((k : Nat) : Int), .bool true] 45)
        have bb := Blk.new (wr.alloc (.cells #[.int .i64 ((k : Nat) : Int), .bool false] 45)) 45 #[.int .i64 ((k : Nat) : Int), .bool true]
        rw [hw7, hbr] at ba
        rw [hw7, show (wr.alloc (.cells #[.int .i64 ((k : Nat) : Int), .bool false] 45)).heap.size = br + 1 by rw [← hbr]; simp] at bb
        have HK7 := Lib.hid (HH.out.1.trans k7)
        have K7 := Lib.hid k7
        have HBa := Lib.hid ba
        have HBb := Lib.hid bb
        have HT7 := Lib.hid (HB1.out.keep HK7.out (fun h => h))
        have HS7 := Lib.hid (HB2.out.keep HK7.out (fun h => h))
        have a0 : w7.cell? ⟨br, 0, none⟩ = some (.int .i64 ((k : Nat) : Int)) := HBa.out.cell 0
        have a1 : w7.cell? ⟨br, 1, none⟩ = some (.bool false) := HBa.out.cell 1
        have HC := Lib.hid (HM.out w7 (HK.out.trans HK7.out) (s1, s2) (((k : Nat) : Int), false))
        have HC2 := Lib.hid (fun (V : World) (hk : Keep Never w7 V) => HM.out V (HK.out.trans (HK7.out.trans hk)) (s1, s2) (((k : Nat) : Int), true))
        dsimp only at HC HC2
        have HLs := Lib.hid (listM_succ t.2.1 (s1, s2) k)
        unfold pairM at HLs
        obtain ⟨m1, hm1⟩ : ∃ z, mayB t.2.1 (s1, s2) (((k : Nat) : Int), false) = z := ⟨_, rfl⟩
        obtain ⟨m2, hm2⟩ : ∃ z, mayB t.2.1 (s1, s2) (((k : Nat) : Int), true) = z := ⟨_, rfl⟩
        rw [hm1] at HC HLs
        rw [hm2] at HC2 HLs
        have y0 : w7.cell? ⟨w.heap.size, 0, none⟩ = some (.slice Ae ne ce) := HT7.out.cell 0
        have y1 : w7.cell? ⟨w.heap.size, 1, none⟩ = some (.slice Aj nj cj) := HT7.out.cell 1
        have y2 : w7.cell? ⟨w.heap.size, 2, none⟩ = some (.slice Ab nb cb) := HT7.out.cell 2
        have y3 : w7.cell? ⟨w.heap.size, 3, none⟩ = some (.slice Ar nr cr) := HT7.out.cell 3
        have p0 : w7.cell? ⟨w.heap.size + 1, 0, none⟩ = some (.int .i64 s1) := HS7.out.cell 0
        have p1 : w7.cell? ⟨w.heap.size + 1, 1, none⟩ = some (.bool s2) := HS7.out.cell 1
        clear k7 ba bb hm1 hm2 hbr2
        go_wp2_with fail
        refine HC.out.mono ?_
        clear hw7
        rintro en w8 ⟨rfl, hk8⟩
        have K78 := Lib.hid hk8
        have HC := Lib.hid (HC2.out w8 hk8)
        have HT8 := Lib.hid (HT7.out.keep hk8 (fun h => h))
        have HS8 := Lib.hid (HS7.out.keep hk8 (fun h => h))
        clear y0 y1 y2 y3 p0 p1 a0 a1
        have b0 : w8.cell? ⟨br + 1, 0, none⟩ = some (.int .i64 ((k : Nat) : Int)) := (HBb.out.keep hk8 (fun h => h)).cell 0
        have b1 : w8.cell? ⟨br + 1, 1, none⟩ = some (.bool true) := (HBb.out.keep hk8 (fun h => h)).cell 1
        have y0 : w8.cell? ⟨w.heap.size, 0, none⟩ = some (.slice Ae ne ce) := HT8.out.cell 0
        have y1 : w8.cell? ⟨w.heap.size, 1, none⟩ = some (.slice Aj nj cj) := HT8.out.cell 1
        have y2 : w8.cell? ⟨w.heap.size, 2, none⟩ = some (.slice Ab nb cb) := HT8.out.cell 2
        have y3 : w8.cell? ⟨w.heap.size, 3, none⟩ = some (.slice Ar nr cr) := HT8.out.cell 3
        have p0 : w8.cell? ⟨w.heap.size + 1, 0, none⟩ = some (.int .i64 s1) := HS8.out.cell 0
        have p1 : w8.cell? ⟨w.heap.size + 1, 1, none⟩ = some (.bool s2) := HS8.out.cell 1
        clear hk8 HC2
        go_wp2_with fail
        refine HC.out.mono ?_
        rintro en w9 ⟨rfl, hk9⟩
        have K79 := Lib.hid (K78.out.trans hk9)
        have HBa9 := Lib.hid (HBa.out.keep K79.out (fun h => h))
        have HBb9 := Lib.hid (HBb.out.keep K79.out (fun h => h))
        have HO := Lib.hid ((HH.out.2.1.keep K7.out (fun _ _ h => h.elim)).keep K79.out (fun _ _ h => h.elim))
        have HRw := Lib.hid (fun q (h : InRow A q) => HH.out.2.1.row h)
        have hlen := listM_len t.2.1 (s1, s2) k
        have hnl := HH.out.2.2
        have hn5 : n ≤ 200000000 := by omega
        have HZ9 : Hid (w2.heap.size ≤ w9.heap.size) := Lib.hid (Nat.le_trans HK7.out.size K79.out.size)
        have HK9 := Lib.hid (HK7.out.trans K79.out)
        have a0 : w9.cell? ⟨br, 0, none⟩ = some (.int .i64 ((k : Nat) : Int)) := HBa9.out.cell 0
        have a1 : w9.cell? ⟨br, 1, none⟩ = some (.bool false) := HBa9.out.cell 1
        have b0 : w9.cell? ⟨br + 1, 0, none⟩ = some (.int .i64 ((k : Nat) : Int)) := HBb9.out.cell 0
        have b1 : w9.cell? ⟨br + 1, 1, none⟩ = some (.bool true) := HBb9.out.cell 1
        have hbrs := hbr
        rw [← hbr] at HBr
        have HRn : Hid (∀ q, InRow A q → q < br) := Lib.hid (fun q h => by rw [← hbr]; exact (HRw.out q h).2)
        have HNl := Lib.hid hnl
        clear hk9 HC y0 y1 y2 y3 p0 p1 hlen hnl hbr hbrs
        cases m1 with
        | false =>
          cases m2 with
          | false =>
            go_wp2_with fail
            have e : listM t.2.1 (s1, s2) (k + 1) = listM t.2.1 (s1, s2) k := by rw [HLs.out]; simp
            refine ⟨⟨k + 1, n, c, A, by omega, by go_num, rfl, Lib.hid ⟨HK9.out, by rw [e]; exact HO.out, by rw [e]; exact HNl.out⟩⟩, ?_⟩
            simp [intOf]; try omega
          | true =>
            go_wp2_with (at_builtin; refine wpList_app _ rfl (.tmp 43) (.tmp 45) _ rfl elemStp w2.heap.size (A := A) (n := n) (c := c) (by go_simp) (HO.out.alloc _) _ (A' := some ⟨_, 0, none⟩) (m := 1) (c' := 1) (news := [.int .i64 ((k : Nat) : Int), .bool true]) (by go_simp) (Rd.of_blk (n := 1) (cs := [.int .i64 ((k : Nat) : Int), .bool true]) (Blk.new _ _ _) rfl) (by simp [Value.oneCell']) (by omega) (by unfold maxLen; omega) (by have := HZ9.out; simp; omega) ?_; intro A5 c5 w5 hown hk5 hrow5; have HO5 := Lib.hid hown; have HKa5 := Lib.hid hk5; clear hown hk5 hrow5)
            have e : listM t.2.1 (s1, s2) (k + 1) = listM t.2.1 (s1, s2) k ++ [(((k : Nat) : Int), true)] := by rw [HLs.out]; simp
            go_wp2_with fail
            refine ⟨⟨k + 1, n + 1, c5, A5, by omega, by go_num, rfl, Lib.hid ⟨(HK9.out.alloc _).then_ HKa5.out (fun i hi h => by have := (HO.out.row h).1; omega), by rw [e, stpCells_app]; exact HO5.out, by rw [e, List.length_append, ← HNl.out]; rfl⟩⟩, ?_⟩
            simp [intOf]; try omega
        | true =>
          cases m2 with
          | false =>
            go_wp2_with (at_builtin; refine wpList_app _ rfl (.tmp 38) (.tmp 40) _ rfl elemStp w2.heap.size (A := A) (n := n) (c := c) (by go_simp) (HO.out.alloc _) _ (A' := some ⟨_, 0, none⟩) (m := 1) (c' := 1) (news := [.int .i64 ((k : Nat) : Int), .bool false]) (by go_simp) (Rd.of_blk (n := 1) (cs := [.int .i64 ((k : Nat) : Int), .bool false]) (Blk.new _ _ _) rfl) (by simp [Value.oneCell']) (by omega) (by unfold maxLen; omega) (by have := HZ9.out; simp; omega) ?_; intro A5 c5 w5 hown hk5 hrow5; have hb5 := (HBb9.out.alloc (.cells #[.int .i64 ((k : Nat) : Int), .bool false] 45)).keep hk5 (fun h => by have := HRn.out _ h; omega); have b0' : w5.cell? ⟨br + 1, 0, none⟩ = some (.int .i64 ((k : Nat) : Int)) := hb5.cell 0; have b1' : w5.cell? ⟨br + 1, 1, none⟩ = some (.bool true) := hb5.cell 1; have HZ5 : Hid (w2.heap.size ≤ w5.heap.size) := Lib.hid (Nat.le_trans HZ9.out (Nat.le_trans ((Keep.refl Never w9).alloc (.cells #[.int .i64 ((k : Nat) : Int), .bool false] 45)).size hk5.size)); clear hb5; have HO5 := Lib.hid hown; have HKa5 := Lib.hid hk5; clear hown hk5 hrow5)
            have e : listM t.2.1 (s1, s2) (k + 1) = listM t.2.1 (s1, s2) k ++ [(((k : Nat) : Int), false)] := by rw [HLs.out]; simp
            go_wp2_with fail
            refine ⟨⟨k + 1, n + 1, c5, A5, by omega, by go_num, rfl, Lib.hid ⟨(HK9.out.alloc _).then_ HKa5.out (fun i hi h => by have := (HO.out.row h).1; omega), by rw [e, stpCells_app]; exact HO5.out, by rw [e, List.length_append, ← HNl.out]; rfl⟩⟩, ?_⟩
            simp [intOf]; try omega
          | true =>
            go_wp2_with (first | (at_builtin; refine wpList_app _ rfl (.tmp 38) (.tmp 40) _ rfl elemStp w2.heap.size (A := A) (n := n) (c := c) (by go_simp) (HO.out.alloc _) _ (A' := some ⟨_, 0, none⟩) (m := 1) (c' := 1) (news := [.int .i64 ((k : Nat) : Int), .bool false]) (by go_simp) (Rd.of_blk (n := 1) (cs := [.int .i64 ((k : Nat) : Int), .bool false]) (Blk.new _ _ _) rfl) (by simp [Value.oneCell']) (by omega) (by unfold maxLen; omega) (by have := HZ9.out; simp; omega) ?_; intro A5 c5 w5 hown hk5 hrow5; have hb5 := (HBb9.out.alloc (.cells #[.int .i64 ((k : Nat) : Int), .bool false] 45)).keep hk5 (fun h => by have := HRn.out _ h; omega); have b0' : w5.cell? ⟨br + 1, 0, none⟩ = some (.int .i64 ((k : Nat) : Int)) := hb5.cell 0; have b1' : w5.cell? ⟨br + 1, 1, none⟩ = some (.bool true) := hb5.cell 1; have HZ5 : Hid (w2.heap.size ≤ w5.heap.size) := Lib.hid (Nat.le_trans HZ9.out (Nat.le_trans ((Keep.refl Never w9).alloc (.cells #[.int .i64 ((k : Nat) : Int), .bool false] 45)).size hk5.size)); clear hb5; have HO5 := Lib.hid hown; have HKa5 := Lib.hid hk5; clear hown hk5 hrow5) | (at_builtin; refine wpList_app _ rfl (.tmp 43) (.tmp 45) _ rfl elemStp w2.heap.size (A := A5) (n := (n + 1)) (c := c5) (by go_simp) (HO5.out.alloc _) _ (A' := some ⟨_, 0, none⟩) (m := 1) (c' := 1) (news := [.int .i64 ((k : Nat) : Int), .bool true]) (by go_simp) (Rd.of_blk (n := 1) (cs := [.int .i64 ((k : Nat) : Int), .bool true]) (Blk.new _ _ _) rfl) (by simp [Value.oneCell']) (by omega) (by unfold maxLen; omega) (by have := HZ5.out; simp; omega) ?_; intro A6 c6 w6 hown hk5 hrow5; have HO6 := Lib.hid hown; have HKa6 := Lib.hid hk5; clear hown hk5 hrow5))
            have e : listM t.2.1 (s1, s2) (k + 1) = (listM t.2.1 (s1, s2) k ++ [(((k : Nat) : Int), false)]) ++ [(((k : Nat) : Int), true)] := by rw [HLs.out]; simp
            go_wp2_with fail
            refine ⟨⟨k + 1, n + 1 + 1, c6, A6, by omega, by go_num, rfl, Lib.hid ⟨(((HK9.out.alloc _).then_ HKa5.out (fun i hi h => by have := (HO.out.row h).1; omega)).alloc _).then_ HKa6.out (fun i hi h => by have := (HO5.out.row h).1; omega), by rw [e, stpCells_app, stpCells_app]; exact HO6.out, by rw [e, List.length_append, List.length_append, ← HNl.out]; rfl⟩⟩, ?_⟩
            simp [intOf]; try omega
      · obtain rfl : ne = k := by omega
        have hkz : ¬ (ne : Int) < (ne : Int) := by omega
        have HKe := Lib.hid (HK.out.trans HH.out.1)
        have HOe := Lib.hid (HH.out.2.1.less (b := w.heap.size) (by rw [HLo.out]; omega))
        have HNe := Lib.hid HH.out.2.2
        go_wp2_with fail
        go_ret
        exact ⟨A, n, c, rfl, Lib.hid (by rw [HF.out]; exact HNe.out), by rw [HF.out]; exact HOe.out, HKe.out⟩
end Go.Proofs.Ytijdkjcjhfebfaa
