/- Chapter 13: may; the document's May. -/
import Derived.Test.YtpahfobijmmmmaaGreatBdTopA
namespace Go.Proofs.YtpahfobijmmmmaaGreat
open Go.RowKit

theorem held8_next {W0 w w' : World} {a b c d e f g h : Addr} {ua ub uc ud ue uf ug uh : Value} (H : Keep Never W0 w ∧ w.cell? a = some ua ∧ w.cell? b = some ub ∧ w.cell? c = some uc ∧ w.cell? d = some ud ∧ w.cell? e = some ue ∧ w.cell? f = some uf ∧ w.cell? g = some ug ∧ w.cell? h = some uh) (hk : Keep Never w w') :
    Keep Never W0 w' ∧ w'.cell? a = some ua ∧ w'.cell? b = some ub ∧ w'.cell? c = some uc ∧ w'.cell? d = some ud ∧ w'.cell? e = some ue ∧ w'.cell? f = some uf ∧ w'.cell? g = some ug ∧ w'.cell? h = some uh :=
  ⟨H.1.trans hk, keepT hk H.2.1, keepT hk H.2.2.1, keepT hk H.2.2.2.1, keepT hk H.2.2.2.2.1, keepT hk H.2.2.2.2.2.1, keepT hk H.2.2.2.2.2.2.1, keepT hk H.2.2.2.2.2.2.2.1, keepT hk H.2.2.2.2.2.2.2.2⟩

set_option maxHeartbeats 4000000 in
set_option maxRecDepth 100000 in
theorem mayj_any (x : TA) (t : Tp) (B : Nat) (a b : Stp) (w : World) (ht : TpAt w B x t) (hn : x.nj ≤ 100000000) :
    Calls Tryz.prog 110 #[.agg x.cs, .agg #[.int .i64 a.1, .bool a.2], .agg #[.int .i64 b.1, .bool b.2]] w fun e w' => e = .returned (.bool (mayJ t.2.1 a b)) ∧ Keep Never w w' := by
  have HJ : Hid (∀ w', Keep Never w w' → Calls Tryz.prog 54 #[.agg x.cs, .agg #[.int .i64 (outE a).1, .int .i64 (outE a).2], .agg #[.int .i64 (inE b).1, .int .i64 (inE b).2]] w' fun e w'' => e = .returned (.bool (joinB t.2.1 (outE a) (inE b))) ∧ Keep Never w' w'') := Lib.hid (fun w' h => joins_any x t B (outE a) (inE b) w' (ht.keep h) hn)
  have HO := Lib.hid (fun W => leaves_any a W)
  have HI := Lib.hid (fun W => enters_any b W)
  obtain ⟨Ae, ne, ce, Aj, nj, cj, Ab, nb, cb, Ar, nr, cr⟩ := x
  simp only [TA.cs] at HJ ⊢
  have HMy : Hid (mayJ t.2.1 a b = joinB t.2.1 (outE a) (inE b)) := Lib.hid rfl
  obtain ⟨a1, a2⟩ := a
  obtain ⟨b1, b2⟩ := b
  generalize outE (a1, a2) = oa at *
  generalize inE (b1, b2) = ib at *
  obtain ⟨oa1, oa2⟩ := oa
  obtain ⟨ib1, ib2⟩ := ib
  simp only at HJ HO HI HMy ⊢
  obtain ⟨w1, hw1⟩ : ∃ wb : World, w.alloc (.cells #[.slice Ae ne ce, .slice Aj nj cj, .slice Ab nb cb, .slice Ar nr cr] 27) = wb := ⟨_, rfl⟩
  obtain ⟨w2, hw2⟩ : ∃ wb : World, w1.alloc (.cells #[.int .i64 a1, .bool a2] 106) = wb := ⟨_, rfl⟩
  obtain ⟨w3, hw3⟩ : ∃ wb : World, w2.alloc (.cells #[.int .i64 b1, .bool b2] 106) = wb := ⟨_, rfl⟩
  have s1 : w1.heap.size = w.heap.size + 1 := by rw [← hw1]; simp
  have s2 : w2.heap.size = w.heap.size + 1 + 1 := by rw [← hw2, ← s1]; simp
  have k1 : Keep Never w w1 := by rw [← hw1]; exact (Keep.refl _ _).alloc _
  have k2 : Keep Never w1 w2 := by rw [← hw2]; exact (Keep.refl _ _).alloc _
  have k3 : Keep Never w2 w3 := by rw [← hw3]; exact (Keep.refl _ _).alloc _
  have b1' := Blk.new w 27 #[.slice Ae ne ce, .slice Aj nj cj, .slice Ab nb cb, .slice Ar nr cr]
  rw [hw1] at b1'
  have b2' := Blk.new w1 106 #[.int .i64 a1, .bool a2]
  rw [hw2, s1] at b2'
  have b3' := Blk.new w2 106 #[.int .i64 b1, .bool b2]
  rw [hw3, s2] at b3'
  have HK := Lib.hid ((k1.trans k2).trans k3)
  have HB1 := (b1'.keep k2 (fun h => h)).keep k3 (fun h => h)
  have HB2 := b2'.keep k3 (fun h => h)
  have y0 : w3.cell? ⟨w.heap.size, 0, none⟩ = some (.slice Ae ne ce) := HB1.cell 0
  have y1 : w3.cell? ⟨w.heap.size, 1, none⟩ = some (.slice Aj nj cj) := HB1.cell 1
  have y2 : w3.cell? ⟨w.heap.size, 2, none⟩ = some (.slice Ab nb cb) := HB1.cell 2
  have y3 : w3.cell? ⟨w.heap.size, 3, none⟩ = some (.slice Ar nr cr) := HB1.cell 3
  have y4 : w3.cell? ⟨w.heap.size + 1, 0, none⟩ = some (.int .i64 a1) := HB2.cell 0
  have y5 : w3.cell? ⟨w.heap.size + 1, 1, none⟩ = some (.bool a2) := HB2.cell 1
  have y6 : w3.cell? ⟨w.heap.size + 1 + 1, 0, none⟩ = some (.int .i64 b1) := b3'.cell 0
  have y7 : w3.cell? ⟨w.heap.size + 1 + 1, 1, none⟩ = some (.bool b2) := b3'.cell 1
  clear k1 k2 k3 b1' b2' b3' HB1 HB2
  go_enter Tryz.func110, Tryz.ntmps110
  go_wp2_with fail
  go_region_held3 (fun w' => Keep Never w3 w' ∧ w'.cell? ⟨w.heap.size, 0, none⟩ = some (.slice Ae ne ce) ∧ w'.cell? ⟨w.heap.size, 1, none⟩ = some (.slice Aj nj cj) ∧ w'.cell? ⟨w.heap.size, 2, none⟩ = some (.slice Ab nb cb) ∧ w'.cell? ⟨w.heap.size, 3, none⟩ = some (.slice Ar nr cr) ∧ w'.cell? ⟨w.heap.size + 1, 0, none⟩ = some (.int .i64 a1) ∧ w'.cell? ⟨w.heap.size + 1, 1, none⟩ = some (.bool a2) ∧ w'.cell? ⟨w.heap.size + 1 + 1, 0, none⟩ = some (.int .i64 b1) ∧ w'.cell? ⟨w.heap.size + 1 + 1, 1, none⟩ = some (.bool b2))
    (first | assumption | exact ⟨(Keep.refl Never w3).drew, y0, y1, y2, y3, y4, y5, y6, y7⟩ | exact held8_next (by assumption) hk')
    (first
      | (go_at_call 118; refine (HO.out _).mono ?_; rintro e w' ⟨rfl, hk'⟩)
      | (go_at_call 119; refine (HI.out _).mono ?_; rintro e w' ⟨rfl, hk'⟩)
      | (go_at_call 54; refine (HJ.out _ (HK.out.trans (by first | exact (Keep.refl Never w3).drew | exact And.left (by assumption)))).mono ?_; rintro e w' ⟨rfl, hk'⟩))
  all_goals
    rename_i hS
    have HKe := Lib.hid (HK.out.trans (And.left hS))
    clear hS
    go_wp2_with fail
    go_ret
    exact ⟨by rw [HMy.out]; rfl, HKe.out⟩
set_option maxHeartbeats 4000000 in
set_option maxRecDepth 100000 in
theorem rmay_any (x : TA) (t : Tp) (B : Nat) (a b : Stp) (w : World) (ht : TpAt w B x t) (hn : x.nj ≤ 100000000) :
    Calls Tryz.prog 99 #[.agg x.cs, .agg #[.int .i64 a.1, .bool a.2], .agg #[.int .i64 b.1, .bool b.2]] w fun e w' => e = .returned (.bool (mayJ t.2.1 a b)) ∧ Keep Never w w' := by
  have HJ : Hid (∀ w', Keep Never w w' → Calls Tryz.prog 62 #[.slice x.Aj x.nj x.cj, .agg #[.int .i64 (outE a).1, .int .i64 (outE a).2], .agg #[.int .i64 (inE b).1, .int .i64 (inE b).2]] w' fun e w'' => e = .returned (.bool (joinB t.2.1 (outE a) (inE b))) ∧ Keep Never w' w'') := Lib.hid (fun w' h => rjoined_any x.Aj x.nj x.cj B t.2.1 (outE a) (inE b) w' (ht.keep h).j hn)
  have HO := Lib.hid (fun W => rout_any a W)
  have HI := Lib.hid (fun W => rin_any b W)
  obtain ⟨Ae, ne, ce, Aj, nj, cj, Ab, nb, cb, Ar, nr, cr⟩ := x
  simp only [TA.cs] at HJ ⊢
  have HMy : Hid (mayJ t.2.1 a b = joinB t.2.1 (outE a) (inE b)) := Lib.hid rfl
  obtain ⟨a1, a2⟩ := a
  obtain ⟨b1, b2⟩ := b
  generalize outE (a1, a2) = oa at *
  generalize inE (b1, b2) = ib at *
  obtain ⟨oa1, oa2⟩ := oa
  obtain ⟨ib1, ib2⟩ := ib
  simp only at HJ HO HI HMy ⊢
  obtain ⟨w1, hw1⟩ : ∃ wb : World, w.alloc (.cells #[.slice Ae ne ce, .slice Aj nj cj, .slice Ab nb cb, .slice Ar nr cr] 27) = wb := ⟨_, rfl⟩
  obtain ⟨w2, hw2⟩ : ∃ wb : World, w1.alloc (.cells #[.int .i64 a1, .bool a2] 106) = wb := ⟨_, rfl⟩
  obtain ⟨w3, hw3⟩ : ∃ wb : World, w2.alloc (.cells #[.int .i64 b1, .bool b2] 106) = wb := ⟨_, rfl⟩
  have s1 : w1.heap.size = w.heap.size + 1 := by rw [← hw1]; simp
  have s2 : w2.heap.size = w.heap.size + 1 + 1 := by rw [← hw2, ← s1]; simp
  have k1 : Keep Never w w1 := by rw [← hw1]; exact (Keep.refl _ _).alloc _
  have k2 : Keep Never w1 w2 := by rw [← hw2]; exact (Keep.refl _ _).alloc _
  have k3 : Keep Never w2 w3 := by rw [← hw3]; exact (Keep.refl _ _).alloc _
  have b1' := Blk.new w 27 #[.slice Ae ne ce, .slice Aj nj cj, .slice Ab nb cb, .slice Ar nr cr]
  rw [hw1] at b1'
  have b2' := Blk.new w1 106 #[.int .i64 a1, .bool a2]
  rw [hw2, s1] at b2'
  have b3' := Blk.new w2 106 #[.int .i64 b1, .bool b2]
  rw [hw3, s2] at b3'
  have HK := Lib.hid ((k1.trans k2).trans k3)
  have HB1 := (b1'.keep k2 (fun h => h)).keep k3 (fun h => h)
  have HB2 := b2'.keep k3 (fun h => h)
  have y0 : w3.cell? ⟨w.heap.size, 0, none⟩ = some (.slice Ae ne ce) := HB1.cell 0
  have y1 : w3.cell? ⟨w.heap.size, 1, none⟩ = some (.slice Aj nj cj) := HB1.cell 1
  have y2 : w3.cell? ⟨w.heap.size, 2, none⟩ = some (.slice Ab nb cb) := HB1.cell 2
  have y3 : w3.cell? ⟨w.heap.size, 3, none⟩ = some (.slice Ar nr cr) := HB1.cell 3
  have y4 : w3.cell? ⟨w.heap.size + 1, 0, none⟩ = some (.int .i64 a1) := HB2.cell 0
  have y5 : w3.cell? ⟨w.heap.size + 1, 1, none⟩ = some (.bool a2) := HB2.cell 1
  have y6 : w3.cell? ⟨w.heap.size + 1 + 1, 0, none⟩ = some (.int .i64 b1) := b3'.cell 0
  have y7 : w3.cell? ⟨w.heap.size + 1 + 1, 1, none⟩ = some (.bool b2) := b3'.cell 1
  clear k1 k2 k3 b1' b2' b3' HB1 HB2
  go_enter Tryz.func99, Tryz.ntmps99
  go_wp2_with fail
  go_region_held3 (fun w' => Keep Never w3 w' ∧ w'.cell? ⟨w.heap.size, 0, none⟩ = some (.slice Ae ne ce) ∧ w'.cell? ⟨w.heap.size, 1, none⟩ = some (.slice Aj nj cj) ∧ w'.cell? ⟨w.heap.size, 2, none⟩ = some (.slice Ab nb cb) ∧ w'.cell? ⟨w.heap.size, 3, none⟩ = some (.slice Ar nr cr) ∧ w'.cell? ⟨w.heap.size + 1, 0, none⟩ = some (.int .i64 a1) ∧ w'.cell? ⟨w.heap.size + 1, 1, none⟩ = some (.bool a2) ∧ w'.cell? ⟨w.heap.size + 1 + 1, 0, none⟩ = some (.int .i64 b1) ∧ w'.cell? ⟨w.heap.size + 1 + 1, 1, none⟩ = some (.bool b2))
    (first | assumption | exact ⟨(Keep.refl Never w3).drew, y0, y1, y2, y3, y4, y5, y6, y7⟩ | exact held8_next (by assumption) hk')
    (first
      | (go_at_call 111; refine (HO.out _).mono ?_; rintro e w' ⟨rfl, hk'⟩)
      | (go_at_call 112; refine (HI.out _).mono ?_; rintro e w' ⟨rfl, hk'⟩)
      | (go_at_call 62; refine (HJ.out _ (HK.out.trans (by first | exact (Keep.refl Never w3).drew | exact And.left (by assumption)))).mono ?_; rintro e w' ⟨rfl, hk'⟩))
  all_goals
    rename_i hS
    have HKe := Lib.hid (HK.out.trans (And.left hS))
    clear hS
    go_wp2_with fail
    go_ret
    exact ⟨by rw [HMy.out]; rfl, HKe.out⟩


end Go.Proofs.YtpahfobijmmmmaaGreat
