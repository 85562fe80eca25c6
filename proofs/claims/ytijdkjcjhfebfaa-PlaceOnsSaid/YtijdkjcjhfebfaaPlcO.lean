/- Chapter 14: PlaceOns. -/
import Derived.Test.YtijdkjcjhfebfaaPlcL
import Derived.Test.YtijdkjcjhfebfaaPlcK
namespace Go.Proofs.Ytijdkjcjhfebfaa
open Go.RowKit

set_option maxHeartbeats 40000000 in
set_option maxRecDepth 100000 in
theorem placeOns_walk (W : World) (cs0 : Array Value) (t : Tp) (s0 : repTp.cells W W.heap.size t cs0.toList) (A1 : Option Addr) (n1 c1 : Nat) (path : List Stp) (s1 : repStp.Sl W W.heap.size A1 n1 c1 path) (cs2 : Array Value) (p0 : Ps) (sp : repPs.cells W W.heap.size p0 cs2.toList) (n : Int) (_b3 : -9223372036854775808 ≤ n) (_c3 : n ≤ 9223372036854775807) :
    Calls Try.prog 5 #[.agg cs0, .slice A1 n1 c1, .agg cs2, .int .i64 n] W fun e W' => e = .returned (.bool true) ∧ Keep Never W W' := by
  obtain ⟨x, hx, ht⟩ := TpAt.of s0
  obtain rfl : cs0 = x.cs := by apply Array.ext'; exact hx
  clear s0 hx
  obtain ⟨e, a, r⟩ := p0
  obtain rfl := ps_in sp
  simp only
  clear sp
  have qe : ∀ (w : World) (a b : Int) (c : Bool), (binOp .eql 29 (.agg #[.int .i64 a, .int .i64 b, .bool c]) (.agg #[.int .i64 a, .int .i64 b, .bool c])).run Try.prog w = .ok (.bool true) w := run_eql_pos
  have HLt : Hid (∀ V, Keep Never W V → Calls Try.prog 11 #[.agg x.cs] V fun e w'' => ∃ b, e = .returned (.bool b) ∧ Hid (b = true → TpLight x t) ∧ Keep Never V w'') := Lib.hid (fun V h => light13r_any x t W.heap.size V (ht.keep h))
  have HOn : Hid (∀ (V : World) (e a : Int) (r : Bool), Keep Never W V → TpLight x t → n1 ≤ 100 → Calls Try.prog 20 #[.agg x.cs, .slice A1 n1 c1, .agg #[.int .i64 e, .int .i64 a, .bool r]] V fun en w' => en = .returned (.tuple #[.int .i64 (onP t path (e, a, r)).1, .int .i64 (onP t path (e, a, r)).2]) ∧ Keep Never V w') := Lib.hid (fun V e a r h hl hn => pon_any x t W.heap.size A1 n1 c1 path e a r V (ht.keep h) hl.small h.size (s1.keep h (fun _ h => h.elim)) (by omega))
  have HRn : Hid (∀ (V : World) (e a : Int) (r : Bool), Keep Never W V → TpLight x t → n1 ≤ 100 → Calls Try.prog 21 #[.agg x.cs, .slice A1 n1 c1, .agg #[.int .i64 e, .int .i64 a, .bool r]] V fun en w' => en = .returned (.tuple #[.int .i64 (onP t path (e, a, r)).1, .int .i64 (onP t path (e, a, r)).2]) ∧ Keep Never V w') := Lib.hid (fun V e a r h hl hn => ron_any x t W.heap.size A1 n1 c1 path e a r V (ht.keep h) hl.small h.size (s1.keep h (fun _ h => h.elim)) (by omega))
  have HOf : Hid (∀ (V : World) (n : Int), Keep Never W V → TpLight x t → n1 ≤ 100 → Calls Try.prog 22 #[.agg x.cs, .slice A1 n1 c1, .int .i64 n] V (PsRet2 (offP t path n) V)) := Lib.hid (fun V n h hl hn => poff_any x t W.heap.size A1 n1 c1 path n V (ht.keep h) hl.small h.size (s1.keep h (fun _ h => h.elim)) (by omega))
  have HRf : Hid (∀ (V : World) (n : Int), Keep Never W V → TpLight x t → n1 ≤ 100 → Calls Try.prog 23 #[.agg x.cs, .slice A1 n1 c1, .int .i64 n] V (PsRet2 (offP t path n) V)) := Lib.hid (fun V n h hl hn => roff_any x t W.heap.size A1 n1 c1 path n V (ht.keep h) hl.small h.size (s1.keep h (fun _ h => h.elim)) (by omega))
  obtain ⟨Ae, ne, ce, Aj, nj, cj, Ab, nb, cb, Ar, nr, cr⟩ := x
  simp only [TA.cs] at HLt HOn HRn HOf HRf ⊢
  clear ht
  obtain ⟨v1, hv1⟩ : ∃ V : World, W.alloc (.cells #[.slice Ae ne ce, .slice Aj nj cj, .slice Ab nb cb, .slice Ar nr cr] 27) = V := ⟨_, rfl⟩
  have zv1 : v1.heap.size = W.heap.size + 1 := by rw [← hv1]; simp
  have kv1 : Keep Never W v1 := by rw [← hv1]; exact (Keep.refl _ _).alloc _
  have bv1 := Blk.new W 27 #[.slice Ae ne ce, .slice Aj nj cj, .slice Ab nb cb, .slice Ar nr cr]
  rw [hv1] at bv1
  obtain ⟨v2, hv2⟩ : ∃ V : World, v1.alloc (.cells #[.int .i64 e, .int .i64 a, .bool r] 29) = V := ⟨_, rfl⟩
  have kv2 : Keep Never v1 v2 := by rw [← hv2]; exact (Keep.refl _ _).alloc _
  have bv2 := Blk.new v1 29 #[.int .i64 e, .int .i64 a, .bool r]
  rw [hv2, zv1] at bv2
  have HB1 := Lib.hid (bv1.keep kv2 (fun h => h))
  have HB2 := Lib.hid bv2
  have HK := Lib.hid (kv1.trans kv2)
  clear kv1 kv2 bv1 bv2
  have HA := Lib.hid (awake14_any v2)
  go_enter Try.func5, Try.ntmps5
  go_wp2_with fail
  refine HA.out.mono ?_
  rintro en w101 ⟨rfl, hk1⟩
  have HK1 := Lib.hid (HK.out.trans hk1)
  have Hy1 := Lib.hid (HB1.out.keep hk1 (fun h => h))
  have Hq1 := Lib.hid (HB2.out.keep hk1 (fun h => h))
  clear hk1 HA
  have y0 : w101.cell? ⟨W.heap.size, 0, none⟩ = some (.slice Ae ne ce) := Hy1.out.cell 0
  have y1 : w101.cell? ⟨W.heap.size, 1, none⟩ = some (.slice Aj nj cj) := Hy1.out.cell 1
  have y2 : w101.cell? ⟨W.heap.size, 2, none⟩ = some (.slice Ab nb cb) := Hy1.out.cell 2
  have y3 : w101.cell? ⟨W.heap.size, 3, none⟩ = some (.slice Ar nr cr) := Hy1.out.cell 3
  have q0 : w101.cell? ⟨W.heap.size + 1, 0, none⟩ = some (.int .i64 e) := Hq1.out.cell 0
  have q1 : w101.cell? ⟨W.heap.size + 1, 1, none⟩ = some (.int .i64 a) := Hq1.out.cell 1
  have q2 : w101.cell? ⟨W.heap.size + 1, 2, none⟩ = some (.bool r) := Hq1.out.cell 2
  have HC := Lib.hid (HLt.out w101 HK1.out)
  clear HLt
  go_wp2_with fail
  refine HC.out.mono ?_
  rintro en w102 ⟨lt, rfl, hlt, hk2⟩
  have HK2 := Lib.hid (HK1.out.trans hk2)
  have Hy2 := Lib.hid (Hy1.out.keep hk2 (fun h => h))
  have Hq2 := Lib.hid (Hq1.out.keep hk2 (fun h => h))
  clear y0 y1 y2 y3 q0 q1 q2 hk2 HC
  clear hv1 hv2 zv1
  cases lt with
  | false =>
    clear hlt
    go_wp2_with fail
    go_ret
    exact ⟨rfl, HK2.out⟩
  | true =>
    have HLi := Lib.hid (hlt.out rfl)
    clear hlt
    by_cases g0 : 100 < n1
    · have u0 : decide ((n1 : Int) > 100) = true := by simp; omega
      clear g0
      go_wp2_with fail
      go_ret
      exact ⟨rfl, HK2.out⟩
    have u0 : decide ((n1 : Int) > 100) = false := by simp; omega
    have hn1 : n1 ≤ 100 := by omega
    have Hn1 := Lib.hid hn1
    clear g0 hn1
    obtain ⟨o1, ho1⟩ : ∃ z, (onP t path (e, a, r)).1 = z := ⟨_, rfl⟩
    obtain ⟨o2, ho2⟩ : ∃ z, (onP t path (e, a, r)).2 = z := ⟨_, rfl⟩
    have tq1 : (o1 == o1) = true := by simp
    have tq2 : (o2 == o2) = true := by simp
    have hw := HOn.out w102 e a r HK2.out HLi.out Hn1.out
    rw [ho1, ho2] at hw
    have HC := Lib.hid hw
    clear hw
    have y0 : w102.cell? ⟨W.heap.size, 0, none⟩ = some (.slice Ae ne ce) := Hy2.out.cell 0
    have y1 : w102.cell? ⟨W.heap.size, 1, none⟩ = some (.slice Aj nj cj) := Hy2.out.cell 1
    have y2 : w102.cell? ⟨W.heap.size, 2, none⟩ = some (.slice Ab nb cb) := Hy2.out.cell 2
    have y3 : w102.cell? ⟨W.heap.size, 3, none⟩ = some (.slice Ar nr cr) := Hy2.out.cell 3
    have q0 : w102.cell? ⟨W.heap.size + 1, 0, none⟩ = some (.int .i64 e) := Hq2.out.cell 0
    have q1 : w102.cell? ⟨W.heap.size + 1, 1, none⟩ = some (.int .i64 a) := Hq2.out.cell 1
    have q2 : w102.cell? ⟨W.heap.size + 1, 2, none⟩ = some (.bool r) := Hq2.out.cell 2
    go_wp2_with fail
    refine HC.out.mono ?_
    rintro en w103 ⟨rfl, hk3⟩
    have HK3 := Lib.hid (HK2.out.trans hk3)
    have Hy3 := Lib.hid (Hy2.out.keep hk3 (fun h => h))
    have Hq3 := Lib.hid (Hq2.out.keep hk3 (fun h => h))
    clear y0 y1 y2 y3 q0 q1 q2 hk3 HC
    have hw := HRn.out w103 e a r HK3.out HLi.out Hn1.out
    rw [ho1, ho2] at hw
    have HC := Lib.hid hw
    clear hw ho1 ho2
    have y0 : w103.cell? ⟨W.heap.size, 0, none⟩ = some (.slice Ae ne ce) := Hy3.out.cell 0
    have y1 : w103.cell? ⟨W.heap.size, 1, none⟩ = some (.slice Aj nj cj) := Hy3.out.cell 1
    have y2 : w103.cell? ⟨W.heap.size, 2, none⟩ = some (.slice Ab nb cb) := Hy3.out.cell 2
    have y3 : w103.cell? ⟨W.heap.size, 3, none⟩ = some (.slice Ar nr cr) := Hy3.out.cell 3
    have q0 : w103.cell? ⟨W.heap.size + 1, 0, none⟩ = some (.int .i64 e) := Hq3.out.cell 0
    have q1 : w103.cell? ⟨W.heap.size + 1, 1, none⟩ = some (.int .i64 a) := Hq3.out.cell 1
    have q2 : w103.cell? ⟨W.heap.size + 1, 2, none⟩ = some (.bool r) := Hq3.out.cell 2
    go_wp2_with fail
    refine HC.out.mono ?_
    rintro en w104 ⟨rfl, hk4⟩
    have HK4 := Lib.hid (HK3.out.trans hk4)
    have Hy4 := Lib.hid (Hy3.out.keep hk4 (fun h => h))
    have Hq4 := Lib.hid (Hq3.out.keep hk4 (fun h => h))
    clear y0 y1 y2 y3 q0 q1 q2 hk4 HC
    obtain ⟨⟨⟨x1, x2, x3⟩, xe⟩, hzx⟩ : ∃ z, offP t path n = z := ⟨_, rfl⟩
    have hw := HOf.out w104 n HK4.out HLi.out Hn1.out
    rw [hzx] at hw
    unfold PsRet2 psV at hw
    dsimp only at hw
    have HC := Lib.hid hw
    have HZx := Lib.hid hzx
    clear hw hzx 
    have tq3 : (xe == xe) = true := by simp
    have y0 : w104.cell? ⟨W.heap.size, 0, none⟩ = some (.slice Ae ne ce) := Hy4.out.cell 0
    have y1 : w104.cell? ⟨W.heap.size, 1, none⟩ = some (.slice Aj nj cj) := Hy4.out.cell 1
    have y2 : w104.cell? ⟨W.heap.size, 2, none⟩ = some (.slice Ab nb cb) := Hy4.out.cell 2
    have y3 : w104.cell? ⟨W.heap.size, 3, none⟩ = some (.slice Ar nr cr) := Hy4.out.cell 3
    go_wp2_with fail
    refine HC.out.mono ?_
    rintro en w105 ⟨rfl, hk5⟩
    have HK5 := Lib.hid (HK4.out.trans hk5)
    have Hy5 := Lib.hid (Hy4.out.keep hk5 (fun h => h))
    have Hq5 := Lib.hid (Hq4.out.keep hk5 (fun h => h))
    clear y0 y1 y2 y3 hk5 HC
    obtain ⟨w106, hw106⟩ : ∃ V : World, w105.alloc (.cells #[.int .i64 x1, .int .i64 x2, .bool x3] 29) = V := ⟨_, rfl⟩
    have kx : Keep Never w105 w106 := by rw [← hw106]; exact (Keep.refl _ _).alloc _
    have bx := Blk.new w105 29 #[.int .i64 x1, .int .i64 x2, .bool x3]
    rw [hw106] at bx
    obtain ⟨bX, hbX⟩ : ∃ q, w105.heap.size = q := ⟨_, rfl⟩
    rw [hbX] at bx
    have HBx6 := Lib.hid bx
    have HK6 := Lib.hid (HK5.out.trans kx)
    have Hy6 := Lib.hid (Hy5.out.keep kx (fun h => h))
    have Hq6 := Lib.hid (Hq5.out.keep kx (fun h => h))
    clear kx bx
    have hw := HRf.out w106 n HK6.out HLi.out Hn1.out
    rw [HZx.out] at hw
    unfold PsRet2 psV at hw
    dsimp only at hw
    have HC := Lib.hid hw
    clear hw
    have y0 : w106.cell? ⟨W.heap.size, 0, none⟩ = some (.slice Ae ne ce) := Hy6.out.cell 0
    have y1 : w106.cell? ⟨W.heap.size, 1, none⟩ = some (.slice Aj nj cj) := Hy6.out.cell 1
    have y2 : w106.cell? ⟨W.heap.size, 2, none⟩ = some (.slice Ab nb cb) := Hy6.out.cell 2
    have y3 : w106.cell? ⟨W.heap.size, 3, none⟩ = some (.slice Ar nr cr) := Hy6.out.cell 3
    go_wp2_with fail
    refine HC.out.mono ?_
    rintro en w107 ⟨rfl, hk7⟩
    have HK7 := Lib.hid (HK6.out.trans hk7)
    have Hy7 := Lib.hid (Hy6.out.keep hk7 (fun h => h))
    have Hq7 := Lib.hid (Hq6.out.keep hk7 (fun h => h))
    have HX7 := Lib.hid (HBx6.out.keep hk7 (fun h => h))
    clear y0 y1 y2 y3 hk7 HC
    clear hw106 hbX
    obtain ⟨w108, hw108⟩ : ∃ V : World, w107.alloc (.cells #[.int .i64 x1, .int .i64 x2, .bool x3] 29) = V := ⟨_, rfl⟩
    have kx : Keep Never w107 w108 := by rw [← hw108]; exact (Keep.refl _ _).alloc _
    have bx := Blk.new w107 29 #[.int .i64 x1, .int .i64 x2, .bool x3]
    rw [hw108] at bx
    obtain ⟨bZ, hbZ⟩ : ∃ q, w107.heap.size = q := ⟨_, rfl⟩
    rw [hbZ] at bx
    have HBx8 := Lib.hid bx
    have HK8 := Lib.hid (HK7.out.trans kx)
    have Hy8 := Lib.hid (Hy7.out.keep kx (fun h => h))
    have Hq8 := Lib.hid (Hq7.out.keep kx (fun h => h))
    have HX8 := Lib.hid (HX7.out.keep kx (fun h => h))
    clear kx bx
    have X0 : w108.cell? ⟨bX, 0, none⟩ = some (.int .i64 x1) := HX8.out.cell 0
    have X1 : w108.cell? ⟨bX, 1, none⟩ = some (.int .i64 x2) := HX8.out.cell 1
    have X2 : w108.cell? ⟨bX, 2, none⟩ = some (.bool x3) := HX8.out.cell 2
    have Z0 : w108.cell? ⟨bZ, 0, none⟩ = some (.int .i64 x1) := HBx8.out.cell 0
    have Z1 : w108.cell? ⟨bZ, 1, none⟩ = some (.int .i64 x2) := HBx8.out.cell 1
    have Z2 : w108.cell? ⟨bZ, 2, none⟩ = some (.bool x3) := HBx8.out.cell 2
    go_wp2_with fail
    go_ret
    exact ⟨rfl, HK8.out⟩

end Go.Proofs.Ytijdkjcjhfebfaa
