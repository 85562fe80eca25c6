/- Chapter 14: PlaceWalks. -/
import Derived.Test.YtijdkjcjhfebfaaPlcL
import Derived.Test.YtijdkjcjhfebfaaPlcK
namespace Go.Proofs.Ytijdkjcjhfebfaa
open Go.RowKit

set_option maxHeartbeats 40000000 in
set_option maxRecDepth 100000 in
theorem placeWalks_walk (W : World) (cs0 : Array Value) (t : Tp) (s0 : repTp.cells W W.heap.size t cs0.toList) (cs1 : Array Value) (p0 : Ps) (sp : repPs.cells W W.heap.size p0 cs1.toList) (id : Int) (_b2 : -9223372036854775808 ≤ id) (_c2 : id ≤ 9223372036854775807) (n : Int) (_b3 : -9223372036854775808 ≤ n) (_c3 : n ≤ 9223372036854775807) :
    Calls Try.prog 4 #[.agg cs0, .agg cs1, .int .i64 id, .int .i64 n] W fun e W' => e = .returned (.bool true) ∧ Keep Never W W' := by
  obtain ⟨x, hx, ht⟩ := TpAt.of s0
  obtain rfl : cs0 = x.cs := by apply Array.ext'; exact hx
  clear s0 hx
  obtain ⟨e, a, r⟩ := p0
  obtain rfl := ps_in sp
  simp only
  clear sp
  have qe : ∀ (w : World) (a b : Int) (c : Bool), (binOp .eql 29 (.agg #[.int .i64 a, .int .i64 b, .bool c]) (.agg #[.int .i64 a, .int .i64 b, .bool c])).run Try.prog w = .ok (.bool true) w := run_eql_pos
  have HLt : Hid (∀ V, Keep Never W V → Calls Try.prog 11 #[.agg x.cs] V fun e w'' => ∃ b, e = .returned (.bool b) ∧ Hid (b = true → TpLight x t) ∧ Keep Never V w'') := Lib.hid (fun V h => light13r_any x t W.heap.size V (ht.keep h))
  have HWk : Hid (∀ (V : World) (e a : Int) (r : Bool) (n : Int), Keep Never W V → TpLight x t → Calls Try.prog 12 #[.agg x.cs, .agg #[.int .i64 e, .int .i64 a, .bool r], .int .i64 n] V (PsRet2 (walkP t (e, a, r) n) V)) := Lib.hid (fun V e a r n h hl => pwalk_any x t W.heap.size e a r n V (ht.keep h) hl.small h.size)
  have HRw : Hid (∀ (V : World) (e a : Int) (r : Bool) (n : Int), Keep Never W V → TpLight x t → Calls Try.prog 14 #[.agg x.cs, .agg #[.int .i64 e, .int .i64 a, .bool r], .int .i64 n] V (PsRet2 (walkP t (e, a, r) n) V)) := Lib.hid (fun V e a r n h hl => rwalk_any x t W.heap.size e a r n V (ht.keep h) hl.small h.size)
  have HLo : Hid (∀ (V : World) (id : Int) (r : Bool) (n : Int), Keep Never W V → TpLight x t → Calls Try.prog 15 #[.agg x.cs, .int .i64 id, .bool r, .int .i64 n] V (PsRet2 (locP t id r n) V)) := Lib.hid (fun V id r n h hl => plocate_any x t W.heap.size id r n V (ht.keep h) hl.small h.size)
  have HRl : Hid (∀ (V : World) (id : Int) (r : Bool) (n : Int), Keep Never W V → TpLight x t → Calls Try.prog 16 #[.agg x.cs, .int .i64 id, .bool r, .int .i64 n] V (PsRet2 (locP t id r n) V)) := Lib.hid (fun V id r n h hl => rlocate_any x t W.heap.size id r n V (ht.keep h) hl.small h.size)
  have HRi : Hid (∀ (V : World), Keep Never W V → TpLight x t → Calls Try.prog 13 #[.agg x.cs, .agg #[.int .i64 e, .int .i64 a, .bool r]] V fun en w' => en = .returned (.bool (rightB t (e, a, r))) ∧ Keep Never V w') := Lib.hid (fun V h hl => pright_any x t W.heap.size e a r V (ht.keep h) hl.small h.size)
  have HRr : Hid (∀ (V : World), Keep Never W V → TpLight x t → Calls Try.prog 17 #[.agg x.cs, .agg #[.int .i64 e, .int .i64 a, .bool r]] V fun en w' => en = .returned (.bool (rightB t (e, a, r))) ∧ Keep Never V w') := Lib.hid (fun V h hl => rright_any x t W.heap.size e a r V (ht.keep h) hl.small h.size)
  obtain ⟨Ae, ne, ce, Aj, nj, cj, Ab, nb, cb, Ar, nr, cr⟩ := x
  simp only [TA.cs] at HLt HWk HRw HLo HRl HRi HRr ⊢
  clear ht
  obtain ⟨v1, hv1⟩ : ∃ V : World, W.alloc (.cells #[.slice Ae ne ce, .slice Aj nj cj, .slice Ab nb cb, .slice Ar nr cr] 27) = V := ⟨_, rfl⟩
  have zv1 : v1.heap.size = W.heap.size + 1 := by rw [← hv1]; simp
  have kv1 : Keep Never W v1 := by rw [← hv1]; exact (Keep.refl _ _).alloc _
  have bv1 := Blk.new W 27 #[.slice Ae ne ce, .slice Aj nj cj, .slice Ab nb cb, .slice Ar nr cr]
  rw [hv1] at bv1
  obtain ⟨v2, hv2⟩ : ∃ V : World, v1.alloc (.cells #[.int .i64 e, .int .i64 a, .bool r] 29) = V := ⟨_, rfl⟩
  have kv2 : Keep Never v1 v2 := by rw [← hv2]; exact (Keep.refl _ _).alloc _
  have bv2 := Blk.new v1 29 #[.int .i64 e, .int .i64 a, .bool r]
  rw [hv2, zv1] at bv2
  have HB1 := Lib.hid (bv1.keep kv2 (fun h => h))
  have HB2 := Lib.hid bv2
  have HK := Lib.hid (kv1.trans kv2)
  clear kv1 kv2 bv1 bv2
  have HA := Lib.hid (awake14_any v2)
  go_enter Try.func4, Try.ntmps4
  go_wp2_with fail
  refine HA.out.mono ?_
  rintro en w101 ⟨rfl, hk1⟩
  have HK1 := Lib.hid (HK.out.trans hk1)
  have Hy1 := Lib.hid (HB1.out.keep hk1 (fun h => h))
  have Hq1 := Lib.hid (HB2.out.keep hk1 (fun h => h))
  clear hk1 HA
  have y0 : w101.cell? ⟨W.heap.size, 0, none⟩ = some (.slice Ae ne ce) := Hy1.out.cell 0
  have y1 : w101.cell? ⟨W.heap.size, 1, none⟩ = some (.slice Aj nj cj) := Hy1.out.cell 1
  have y2 : w101.cell? ⟨W.heap.size, 2, none⟩ = some (.slice Ab nb cb) := Hy1.out.cell 2
  have y3 : w101.cell? ⟨W.heap.size, 3, none⟩ = some (.slice Ar nr cr) := Hy1.out.cell 3
  have q0 : w101.cell? ⟨W.heap.size + 1, 0, none⟩ = some (.int .i64 e) := Hq1.out.cell 0
  have q1 : w101.cell? ⟨W.heap.size + 1, 1, none⟩ = some (.int .i64 a) := Hq1.out.cell 1
  have q2 : w101.cell? ⟨W.heap.size + 1, 2, none⟩ = some (.bool r) := Hq1.out.cell 2
  have HC := Lib.hid (HLt.out w101 HK1.out)
  clear HLt
  go_wp2_with fail
  refine HC.out.mono ?_
  rintro en w102 ⟨lt, rfl, hlt, hk2⟩
  have HK2 := Lib.hid (HK1.out.trans hk2)
  have Hy2 := Lib.hid (Hy1.out.keep hk2 (fun h => h))
  have Hq2 := Lib.hid (Hq1.out.keep hk2 (fun h => h))
  clear y0 y1 y2 y3 q0 q1 q2 hk2 HC
  clear hv1 hv2 zv1
  cases lt with
  | false =>
    clear hlt
    go_wp2_with fail
    go_ret
    exact ⟨rfl, HK2.out⟩
  | true =>
    have HLi := Lib.hid (hlt.out rfl)
    clear hlt
    obtain ⟨⟨⟨x1, x2, x3⟩, xe⟩, hzx⟩ : ∃ z, walkP t (e, a, r) n = z := ⟨_, rfl⟩
    have hw := HWk.out w102 e a r n HK2.out HLi.out
    rw [hzx] at hw
    unfold PsRet2 psV at hw
    dsimp only at hw
    have HC := Lib.hid hw
    have HZx := Lib.hid hzx
    clear hw hzx 
    have tq1 : (xe == xe) = true := by simp
    have y0 : w102.cell? ⟨W.heap.size, 0, none⟩ = some (.slice Ae ne ce) := Hy2.out.cell 0
    have y1 : w102.cell? ⟨W.heap.size, 1, none⟩ = some (.slice Aj nj cj) := Hy2.out.cell 1
    have y2 : w102.cell? ⟨W.heap.size, 2, none⟩ = some (.slice Ab nb cb) := Hy2.out.cell 2
    have y3 : w102.cell? ⟨W.heap.size, 3, none⟩ = some (.slice Ar nr cr) := Hy2.out.cell 3
    have q0 : w102.cell? ⟨W.heap.size + 1, 0, none⟩ = some (.int .i64 e) := Hq2.out.cell 0
    have q1 : w102.cell? ⟨W.heap.size + 1, 1, none⟩ = some (.int .i64 a) := Hq2.out.cell 1
    have q2 : w102.cell? ⟨W.heap.size + 1, 2, none⟩ = some (.bool r) := Hq2.out.cell 2
    go_wp2_with fail
    refine HC.out.mono ?_
    rintro en w103 ⟨rfl, hk3⟩
    have HK3 := Lib.hid (HK2.out.trans hk3)
    have Hy3 := Lib.hid (Hy2.out.keep hk3 (fun h => h))
    have Hq3 := Lib.hid (Hq2.out.keep hk3 (fun h => h))
    clear y0 y1 y2 y3 q0 q1 q2 hk3 HC
    obtain ⟨w104, hw104⟩ : ∃ V : World, w103.alloc (.cells #[.int .i64 x1, .int .i64 x2, .bool x3] 29) = V := ⟨_, rfl⟩
    have kx : Keep Never w103 w104 := by rw [← hw104]; exact (Keep.refl _ _).alloc _
    have bx := Blk.new w103 29 #[.int .i64 x1, .int .i64 x2, .bool x3]
    rw [hw104] at bx
    obtain ⟨bX, hbX⟩ : ∃ q, w103.heap.size = q := ⟨_, rfl⟩
    rw [hbX] at bx
    have HBx4 := Lib.hid bx
    have HK4 := Lib.hid (HK3.out.trans kx)
    have Hy4 := Lib.hid (Hy3.out.keep kx (fun h => h))
    have Hq4 := Lib.hid (Hq3.out.keep kx (fun h => h))
    clear kx bx
    have hw := HRw.out w104 e a r n HK4.out HLi.out
    rw [HZx.out] at hw
    unfold PsRet2 psV at hw
    dsimp only at hw
    have HC := Lib.hid hw
    clear hw
    have y0 : w104.cell? ⟨W.heap.size, 0, none⟩ = some (.slice Ae ne ce) := Hy4.out.cell 0
    have y1 : w104.cell? ⟨W.heap.size, 1, none⟩ = some (.slice Aj nj cj) := Hy4.out.cell 1
    have y2 : w104.cell? ⟨W.heap.size, 2, none⟩ = some (.slice Ab nb cb) := Hy4.out.cell 2
    have y3 : w104.cell? ⟨W.heap.size, 3, none⟩ = some (.slice Ar nr cr) := Hy4.out.cell 3
    have q0 : w104.cell? ⟨W.heap.size + 1, 0, none⟩ = some (.int .i64 e) := Hq4.out.cell 0
    have q1 : w104.cell? ⟨W.heap.size + 1, 1, none⟩ = some (.int .i64 a) := Hq4.out.cell 1
    have q2 : w104.cell? ⟨W.heap.size + 1, 2, none⟩ = some (.bool r) := Hq4.out.cell 2
    go_wp2_with fail
    refine HC.out.mono ?_
    rintro en w105 ⟨rfl, hk5⟩
    have HK5 := Lib.hid (HK4.out.trans hk5)
    have Hy5 := Lib.hid (Hy4.out.keep hk5 (fun h => h))
    have Hq5 := Lib.hid (Hq4.out.keep hk5 (fun h => h))
    have HX5 := Lib.hid (HBx4.out.keep hk5 (fun h => h))
    clear y0 y1 y2 y3 q0 q1 q2 hk5 HC
    clear hw104 hbX
    obtain ⟨w106, hw106⟩ : ∃ V : World, w105.alloc (.cells #[.int .i64 x1, .int .i64 x2, .bool x3] 29) = V := ⟨_, rfl⟩
    have kx : Keep Never w105 w106 := by rw [← hw106]; exact (Keep.refl _ _).alloc _
    have bx := Blk.new w105 29 #[.int .i64 x1, .int .i64 x2, .bool x3]
    rw [hw106] at bx
    obtain ⟨bZ, hbZ⟩ : ∃ q, w105.heap.size = q := ⟨_, rfl⟩
    rw [hbZ] at bx
    have HBx6 := Lib.hid bx
    have HK6 := Lib.hid (HK5.out.trans kx)
    have Hy6 := Lib.hid (Hy5.out.keep kx (fun h => h))
    have Hq6 := Lib.hid (Hq5.out.keep kx (fun h => h))
    have HX6 := Lib.hid (HX5.out.keep kx (fun h => h))
    clear kx bx
    obtain ⟨⟨⟨l1, l2, l3⟩, le⟩, hzl⟩ : ∃ z, locP t id r n = z := ⟨_, rfl⟩
    have hw := HLo.out w106 id r n HK6.out HLi.out
    rw [hzl] at hw
    unfold PsRet2 psV at hw
    dsimp only at hw
    have HC := Lib.hid hw
    have HZl := Lib.hid hzl
    clear hw hzl 
    have tq2 : (le == le) = true := by simp
    have y0 : w106.cell? ⟨W.heap.size, 0, none⟩ = some (.slice Ae ne ce) := Hy6.out.cell 0
    have y1 : w106.cell? ⟨W.heap.size, 1, none⟩ = some (.slice Aj nj cj) := Hy6.out.cell 1
    have y2 : w106.cell? ⟨W.heap.size, 2, none⟩ = some (.slice Ab nb cb) := Hy6.out.cell 2
    have y3 : w106.cell? ⟨W.heap.size, 3, none⟩ = some (.slice Ar nr cr) := Hy6.out.cell 3
    have q0 : w106.cell? ⟨W.heap.size + 1, 0, none⟩ = some (.int .i64 e) := Hq6.out.cell 0
    have q1 : w106.cell? ⟨W.heap.size + 1, 1, none⟩ = some (.int .i64 a) := Hq6.out.cell 1
    have q2 : w106.cell? ⟨W.heap.size + 1, 2, none⟩ = some (.bool r) := Hq6.out.cell 2
    go_wp2_with fail
    refine HC.out.mono ?_
    rintro en w107 ⟨rfl, hk7⟩
    have HK7 := Lib.hid (HK6.out.trans hk7)
    have Hy7 := Lib.hid (Hy6.out.keep hk7 (fun h => h))
    have Hq7 := Lib.hid (Hq6.out.keep hk7 (fun h => h))
    have HX7 := Lib.hid (HX6.out.keep hk7 (fun h => h))
    have HZ7 := Lib.hid (HBx6.out.keep hk7 (fun h => h))
    clear y0 y1 y2 y3 q0 q1 q2 hk7 HC
    clear hw106 hbZ
    obtain ⟨w108, hw108⟩ : ∃ V : World, w107.alloc (.cells #[.int .i64 l1, .int .i64 l2, .bool l3] 29) = V := ⟨_, rfl⟩
    have kx : Keep Never w107 w108 := by rw [← hw108]; exact (Keep.refl _ _).alloc _
    have bx := Blk.new w107 29 #[.int .i64 l1, .int .i64 l2, .bool l3]
    rw [hw108] at bx
    obtain ⟨bM, hbM⟩ : ∃ q, w107.heap.size = q := ⟨_, rfl⟩
    rw [hbM] at bx
    have HBx8 := Lib.hid bx
    have HK8 := Lib.hid (HK7.out.trans kx)
    have Hy8 := Lib.hid (Hy7.out.keep kx (fun h => h))
    have Hq8 := Lib.hid (Hq7.out.keep kx (fun h => h))
    have HX8 := Lib.hid (HX7.out.keep kx (fun h => h))
    have HZ8 := Lib.hid (HZ7.out.keep kx (fun h => h))
    clear kx bx
    have hw := HRl.out w108 id r n HK8.out HLi.out
    rw [HZl.out] at hw
    unfold PsRet2 psV at hw
    dsimp only at hw
    have HC := Lib.hid hw
    clear hw
    have y0 : w108.cell? ⟨W.heap.size, 0, none⟩ = some (.slice Ae ne ce) := Hy8.out.cell 0
    have y1 : w108.cell? ⟨W.heap.size, 1, none⟩ = some (.slice Aj nj cj) := Hy8.out.cell 1
    have y2 : w108.cell? ⟨W.heap.size, 2, none⟩ = some (.slice Ab nb cb) := Hy8.out.cell 2
    have y3 : w108.cell? ⟨W.heap.size, 3, none⟩ = some (.slice Ar nr cr) := Hy8.out.cell 3
    have q0 : w108.cell? ⟨W.heap.size + 1, 0, none⟩ = some (.int .i64 e) := Hq8.out.cell 0
    have q1 : w108.cell? ⟨W.heap.size + 1, 1, none⟩ = some (.int .i64 a) := Hq8.out.cell 1
    have q2 : w108.cell? ⟨W.heap.size + 1, 2, none⟩ = some (.bool r) := Hq8.out.cell 2
    go_wp2_with fail
    refine HC.out.mono ?_
    rintro en w109 ⟨rfl, hk9⟩
    have HK9 := Lib.hid (HK8.out.trans hk9)
    have Hy9 := Lib.hid (Hy8.out.keep hk9 (fun h => h))
    have Hq9 := Lib.hid (Hq8.out.keep hk9 (fun h => h))
    have HX9 := Lib.hid (HX8.out.keep hk9 (fun h => h))
    have HZ9 := Lib.hid (HZ8.out.keep hk9 (fun h => h))
    have HM9 := Lib.hid (HBx8.out.keep hk9 (fun h => h))
    clear y0 y1 y2 y3 q0 q1 q2 hk9 HC
    clear hw108 hbM
    obtain ⟨w110, hw110⟩ : ∃ V : World, w109.alloc (.cells #[.int .i64 l1, .int .i64 l2, .bool l3] 29) = V := ⟨_, rfl⟩
    have kx : Keep Never w109 w110 := by rw [← hw110]; exact (Keep.refl _ _).alloc _
    have bx := Blk.new w109 29 #[.int .i64 l1, .int .i64 l2, .bool l3]
    rw [hw110] at bx
    obtain ⟨bN, hbN⟩ : ∃ q, w109.heap.size = q := ⟨_, rfl⟩
    rw [hbN] at bx
    have HBx10 := Lib.hid bx
    have HK10 := Lib.hid (HK9.out.trans kx)
    have Hy10 := Lib.hid (Hy9.out.keep kx (fun h => h))
    have Hq10 := Lib.hid (Hq9.out.keep kx (fun h => h))
    have HX10 := Lib.hid (HX9.out.keep kx (fun h => h))
    have HZ10 := Lib.hid (HZ9.out.keep kx (fun h => h))
    have HM10 := Lib.hid (HM9.out.keep kx (fun h => h))
    clear kx bx
    obtain ⟨rb, hrb⟩ : ∃ z, rightB t (e, a, r) = z := ⟨_, rfl⟩
    rw [hrb] at HRi HRr
    have tq3 : (rb == rb) = true := by simp
    have HX1 := Lib.hid (fun V (h : Keep Never w110 V) => HRi.out V (HK10.out.trans h) HLi.out)
    have HX2 := Lib.hid (fun V (h : Keep Never w110 V) => HRr.out V (HK10.out.trans h) HLi.out)
    have HX3 := Lib.hid (fun V => pturn_any e a r V)
    have HX4 := Lib.hid (fun V => rturn_any e a r V)
    unfold PsRet psV turnP at HX3 HX4
    dsimp only at HX3 HX4
    have y0 : w110.cell? ⟨W.heap.size, 0, none⟩ = some (.slice Ae ne ce) := Hy10.out.cell 0
    have y1 : w110.cell? ⟨W.heap.size, 1, none⟩ = some (.slice Aj nj cj) := Hy10.out.cell 1
    have y2 : w110.cell? ⟨W.heap.size, 2, none⟩ = some (.slice Ab nb cb) := Hy10.out.cell 2
    have y3 : w110.cell? ⟨W.heap.size, 3, none⟩ = some (.slice Ar nr cr) := Hy10.out.cell 3
    have q0 : w110.cell? ⟨W.heap.size + 1, 0, none⟩ = some (.int .i64 e) := Hq10.out.cell 0
    have q1 : w110.cell? ⟨W.heap.size + 1, 1, none⟩ = some (.int .i64 a) := Hq10.out.cell 1
    have q2 : w110.cell? ⟨W.heap.size + 1, 2, none⟩ = some (.bool r) := Hq10.out.cell 2
    have X0 : w110.cell? ⟨bX, 0, none⟩ = some (.int .i64 x1) := HX10.out.cell 0
    have X1 : w110.cell? ⟨bX, 1, none⟩ = some (.int .i64 x2) := HX10.out.cell 1
    have X2 : w110.cell? ⟨bX, 2, none⟩ = some (.bool x3) := HX10.out.cell 2
    have Z0 : w110.cell? ⟨bZ, 0, none⟩ = some (.int .i64 x1) := HZ10.out.cell 0
    have Z1 : w110.cell? ⟨bZ, 1, none⟩ = some (.int .i64 x2) := HZ10.out.cell 1
    have Z2 : w110.cell? ⟨bZ, 2, none⟩ = some (.bool x3) := HZ10.out.cell 2
    have M0 : w110.cell? ⟨bM, 0, none⟩ = some (.int .i64 l1) := HM10.out.cell 0
    have M1 : w110.cell? ⟨bM, 1, none⟩ = some (.int .i64 l2) := HM10.out.cell 1
    have M2 : w110.cell? ⟨bM, 2, none⟩ = some (.bool l3) := HM10.out.cell 2
    have N0 : w110.cell? ⟨bN, 0, none⟩ = some (.int .i64 l1) := HBx10.out.cell 0
    have N1 : w110.cell? ⟨bN, 1, none⟩ = some (.int .i64 l2) := HBx10.out.cell 1
    have N2 : w110.cell? ⟨bN, 2, none⟩ = some (.bool l3) := HBx10.out.cell 2
    have HS2 : Hid (∀ W', Keep Never w110 W' → Keep Never w110 W' ∧ W'.cell? ⟨W.heap.size, 0, none⟩ = some (.slice Ae ne ce) ∧ W'.cell? ⟨W.heap.size, 1, none⟩ = some (.slice Aj nj cj) ∧ W'.cell? ⟨W.heap.size, 2, none⟩ = some (.slice Ab nb cb) ∧ W'.cell? ⟨W.heap.size, 3, none⟩ = some (.slice Ar nr cr) ∧ W'.cell? ⟨W.heap.size + 1, 0, none⟩ = some (.int .i64 e) ∧ W'.cell? ⟨W.heap.size + 1, 1, none⟩ = some (.int .i64 a) ∧ W'.cell? ⟨W.heap.size + 1, 2, none⟩ = some (.bool r) ∧ W'.cell? ⟨bX, 0, none⟩ = some (.int .i64 x1) ∧ W'.cell? ⟨bX, 1, none⟩ = some (.int .i64 x2) ∧ W'.cell? ⟨bX, 2, none⟩ = some (.bool x3) ∧ W'.cell? ⟨bZ, 0, none⟩ = some (.int .i64 x1) ∧ W'.cell? ⟨bZ, 1, none⟩ = some (.int .i64 x2) ∧ W'.cell? ⟨bZ, 2, none⟩ = some (.bool x3) ∧ W'.cell? ⟨bM, 0, none⟩ = some (.int .i64 l1) ∧ W'.cell? ⟨bM, 1, none⟩ = some (.int .i64 l2) ∧ W'.cell? ⟨bM, 2, none⟩ = some (.bool l3) ∧ W'.cell? ⟨bN, 0, none⟩ = some (.int .i64 l1) ∧ W'.cell? ⟨bN, 1, none⟩ = some (.int .i64 l2) ∧ W'.cell? ⟨bN, 2, none⟩ = some (.bool l3)) := Lib.hid (fun W' h => ⟨h, keepT h y0, keepT h y1, keepT h y2, keepT h y3, keepT h q0, keepT h q1, keepT h q2, keepT h X0, keepT h X1, keepT h X2, keepT h Z0, keepT h Z1, keepT h Z2, keepT h M0, keepT h M1, keepT h M2, keepT h N0, keepT h N1, keepT h N2⟩)
    clear hrb HRi HRr
    go_wp2_with fail
    clear y0 y1 y2 y3 q0 q1 q2 X0 X1 X2 Z0 Z1 Z2 M0 M1 M2 N0 N1 N2
    go_region_held3 (fun W' => Keep Never w110 W' ∧ W'.cell? ⟨W.heap.size, 0, none⟩ = some (.slice Ae ne ce) ∧ W'.cell? ⟨W.heap.size, 1, none⟩ = some (.slice Aj nj cj) ∧ W'.cell? ⟨W.heap.size, 2, none⟩ = some (.slice Ab nb cb) ∧ W'.cell? ⟨W.heap.size, 3, none⟩ = some (.slice Ar nr cr) ∧ W'.cell? ⟨W.heap.size + 1, 0, none⟩ = some (.int .i64 e) ∧ W'.cell? ⟨W.heap.size + 1, 1, none⟩ = some (.int .i64 a) ∧ W'.cell? ⟨W.heap.size + 1, 2, none⟩ = some (.bool r) ∧ W'.cell? ⟨bX, 0, none⟩ = some (.int .i64 x1) ∧ W'.cell? ⟨bX, 1, none⟩ = some (.int .i64 x2) ∧ W'.cell? ⟨bX, 2, none⟩ = some (.bool x3) ∧ W'.cell? ⟨bZ, 0, none⟩ = some (.int .i64 x1) ∧ W'.cell? ⟨bZ, 1, none⟩ = some (.int .i64 x2) ∧ W'.cell? ⟨bZ, 2, none⟩ = some (.bool x3) ∧ W'.cell? ⟨bM, 0, none⟩ = some (.int .i64 l1) ∧ W'.cell? ⟨bM, 1, none⟩ = some (.int .i64 l2) ∧ W'.cell? ⟨bM, 2, none⟩ = some (.bool l3) ∧ W'.cell? ⟨bN, 0, none⟩ = some (.int .i64 l1) ∧ W'.cell? ⟨bN, 1, none⟩ = some (.int .i64 l2) ∧ W'.cell? ⟨bN, 2, none⟩ = some (.bool l3))
      (first | assumption | exact HS2.out _ ((Keep.refl Never w110).drew) | exact HS2.out _ (Keep.trans (And.left (by assumption)) hk3) | exact HS2.out _ (Keep.trans ((Keep.refl Never w110).drew) hk3))
      (first
        | (go_at_call 13; refine (HX1.out _ (by first | exact And.left (by assumption) | exact (Keep.refl Never w110).drew | exact Keep.refl Never w110)).mono ?_; rintro e w3 ⟨rfl, hk3⟩)
        | (go_at_call 17; refine (HX2.out _ (by first | exact And.left (by assumption) | exact (Keep.refl Never w110).drew | exact Keep.refl Never w110)).mono ?_; rintro e w3 ⟨rfl, hk3⟩)
        | (go_at_call 18; refine (HX3.out _).mono ?_; rintro e w3 ⟨rfl, hk3⟩)
        | (go_at_call 19; refine (HX4.out _).mono ?_; rintro e w3 ⟨rfl, hk3⟩))
    all_goals
      rename_i hS
      have HKe := Lib.hid (HK10.out.trans hS.1)
      clear hS
      go_wp2_with fail
      go_ret
      exact ⟨rfl, HKe.out⟩

end Go.Proofs.Ytijdkjcjhfebfaa
