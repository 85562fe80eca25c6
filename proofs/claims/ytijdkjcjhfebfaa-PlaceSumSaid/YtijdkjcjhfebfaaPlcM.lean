/- Chapter 14: PlaceSum. -/
import Derived.Test.YtijdkjcjhfebfaaPlcL
namespace Go.Proofs.Ytijdkjcjhfebfaa
open Go.RowKit

set_option maxHeartbeats 40000000 in
set_option maxRecDepth 100000 in
theorem placeSum_walk (W : World) (cs0 : Array Value) (t : Tp) (s0 : repTp.cells W W.heap.size t cs0.toList) (cs1 : Array Value) (p0 : Ps) (sp : repPs.cells W W.heap.size p0 cs1.toList) (na : Int) (_b2 : -9223372036854775808 ≤ na) (_c2 : na ≤ 9223372036854775807) (nb2 : Int) (_b3 : -9223372036854775808 ≤ nb2) (_c3 : nb2 ≤ 9223372036854775807) :
    Calls Try.prog 3 #[.agg cs0, .agg cs1, .int .i64 na, .int .i64 nb2] W fun e W' => e = .returned (.bool true) ∧ Keep Never W W' := by
  obtain ⟨x, hx, ht⟩ := TpAt.of s0
  obtain rfl : cs0 = x.cs := by apply Array.ext'; exact hx
  clear s0 hx
  obtain ⟨e, a, r⟩ := p0
  obtain rfl := ps_in sp
  simp only
  clear sp
  have qe : ∀ (w : World) (a b : Int) (c : Bool), (binOp .eql 29 (.agg #[.int .i64 a, .int .i64 b, .bool c]) (.agg #[.int .i64 a, .int .i64 b, .bool c])).run Try.prog w = .ok (.bool true) w := run_eql_pos
  have HLt : Hid (∀ V, Keep Never W V → Calls Try.prog 11 #[.agg x.cs] V fun e w'' => ∃ b, e = .returned (.bool b) ∧ Hid (b = true → TpLight x t) ∧ Keep Never V w'') := Lib.hid (fun V h => light13r_any x t W.heap.size V (ht.keep h))
  have HWk : Hid (∀ (V : World) (e a : Int) (r : Bool) (n : Int), Keep Never W V → TpLight x t → Calls Try.prog 12 #[.agg x.cs, .agg #[.int .i64 e, .int .i64 a, .bool r], .int .i64 n] V (PsRet2 (walkP t (e, a, r) n) V)) := Lib.hid (fun V e a r n h hl => pwalk_any x t W.heap.size e a r n V (ht.keep h) hl.small h.size)
  have HRi : Hid (∀ (V : World) (e a : Int) (r : Bool), Keep Never W V → TpLight x t → Calls Try.prog 13 #[.agg x.cs, .agg #[.int .i64 e, .int .i64 a, .bool r]] V fun en w' => en = .returned (.bool (rightB t (e, a, r))) ∧ Keep Never V w') := Lib.hid (fun V e a r h hl => pright_any x t W.heap.size e a r V (ht.keep h) hl.small h.size)
  obtain ⟨Ae, ne, ce, Aj, nj, cj, Ab, nb, cb, Ar, nr, cr⟩ := x
  simp only [TA.cs] at HLt HWk HRi ⊢
  clear ht
  obtain ⟨v1, hv1⟩ : ∃ V : World, W.alloc (.cells #[.slice Ae ne ce, .slice Aj nj cj, .slice Ab nb cb, .slice Ar nr cr] 27) = V := ⟨_, rfl⟩
  have zv1 : v1.heap.size = W.heap.size + 1 := by rw [← hv1]; simp
  have kv1 : Keep Never W v1 := by rw [← hv1]; exact (Keep.refl _ _).alloc _
  have bv1 := Blk.new W 27 #[.slice Ae ne ce, .slice Aj nj cj, .slice Ab nb cb, .slice Ar nr cr]
  rw [hv1] at bv1
  obtain ⟨v2, hv2⟩ : ∃ V : World, v1.alloc (.cells #[.int .i64 e, .int .i64 a, .bool r] 29) = V := ⟨_, rfl⟩
  have kv2 : Keep Never v1 v2 := by rw [← hv2]; exact (Keep.refl _ _).alloc _
  have bv2 := Blk.new v1 29 #[.int .i64 e, .int .i64 a, .bool r]
  rw [hv2, zv1] at bv2
  have HB1 := Lib.hid (bv1.keep kv2 (fun h => h))
  have HB2 := Lib.hid bv2
  have HK := Lib.hid (kv1.trans kv2)
  clear kv1 kv2 bv1 bv2
  have HA := Lib.hid (awake14_any v2)
  go_enter Try.func3, Try.ntmps3
  go_wp2_with fail
  refine HA.out.mono ?_
  rintro en w101 ⟨rfl, hk1⟩
  have HK1 := Lib.hid (HK.out.trans hk1)
  have Hy1 := Lib.hid (HB1.out.keep hk1 (fun h => h))
  have Hq1 := Lib.hid (HB2.out.keep hk1 (fun h => h))
  clear hk1 HA
  have y0 : w101.cell? ⟨W.heap.size, 0, none⟩ = some (.slice Ae ne ce) := Hy1.out.cell 0
  have y1 : w101.cell? ⟨W.heap.size, 1, none⟩ = some (.slice Aj nj cj) := Hy1.out.cell 1
  have y2 : w101.cell? ⟨W.heap.size, 2, none⟩ = some (.slice Ab nb cb) := Hy1.out.cell 2
  have y3 : w101.cell? ⟨W.heap.size, 3, none⟩ = some (.slice Ar nr cr) := Hy1.out.cell 3
  have q0 : w101.cell? ⟨W.heap.size + 1, 0, none⟩ = some (.int .i64 e) := Hq1.out.cell 0
  have q1 : w101.cell? ⟨W.heap.size + 1, 1, none⟩ = some (.int .i64 a) := Hq1.out.cell 1
  have q2 : w101.cell? ⟨W.heap.size + 1, 2, none⟩ = some (.bool r) := Hq1.out.cell 2
  have HC := Lib.hid (HLt.out w101 HK1.out)
  clear HLt
  go_wp2_with fail
  refine HC.out.mono ?_
  rintro en w102 ⟨lt, rfl, hlt, hk2⟩
  have HK2 := Lib.hid (HK1.out.trans hk2)
  have Hy2 := Lib.hid (Hy1.out.keep hk2 (fun h => h))
  have Hq2 := Lib.hid (Hq1.out.keep hk2 (fun h => h))
  clear y0 y1 y2 y3 q0 q1 q2 hk2 HC
  clear hv1 hv2 zv1
  cases lt with
  | false =>
    clear hlt
    go_wp2_with fail
    go_ret
    exact ⟨rfl, HK2.out⟩
  | true =>
    have HLi := Lib.hid (hlt.out rfl)
    clear hlt
    by_cases g0 : na < 0
    · have u0 : decide (na < 0) = true := by simpa using g0
      clear g0
      go_wp2_with fail
      go_ret
      exact ⟨rfl, HK2.out⟩
    have u0 : decide (na < 0) = false := by simpa using g0
    by_cases g1 : nb2 < 0
    · have u1 : decide (nb2 < 0) = true := by simpa using g1
      clear g0 g1
      go_wp2_with fail
      go_ret
      exact ⟨rfl, HK2.out⟩
    have u1 : decide (nb2 < 0) = false := by simpa using g1
    by_cases g2 : na > 1099511627776
    · have u2 : decide (na > 1099511627776) = true := by simpa using g2
      clear g0 g1 g2
      go_wp2_with fail
      go_ret
      exact ⟨rfl, HK2.out⟩
    have u2 : decide (na > 1099511627776) = false := by simpa using g2
    by_cases g3 : nb2 > 1099511627776
    · have u3 : decide (nb2 > 1099511627776) = true := by simpa using g3
      clear g0 g1 g2 g3
      go_wp2_with fail
      go_ret
      exact ⟨rfl, HK2.out⟩
    have u3 : decide (nb2 > 1099511627776) = false := by simpa using g3
    have hab : 0 ≤ na ∧ 0 ≤ nb2 := by omega
    have hwn : IntKind.i64.wrap (na + nb2) = na + nb2 := IntWalk.i64_in _ (by omega)
    have hwn2 : wrap64 (na + nb2) = na + nb2 := by have := hwn; rwa [IntWalk.i64_left] at this
    have Hab := Lib.hid hab
    clear g0 g1 g2 g3 hab
    obtain ⟨⟨⟨x1, x2, x3⟩, xe⟩, hzx⟩ : ∃ z, walkP t (e, a, r) (na + nb2) = z := ⟨_, rfl⟩
    have hw := HWk.out w102 e a r (na + nb2) HK2.out HLi.out
    rw [hzx] at hw
    unfold PsRet2 psV at hw
    dsimp only at hw
    have HC := Lib.hid hw
    have HZx := Lib.hid hzx
    clear hw hzx 
    have y0 : w102.cell? ⟨W.heap.size, 0, none⟩ = some (.slice Ae ne ce) := Hy2.out.cell 0
    have y1 : w102.cell? ⟨W.heap.size, 1, none⟩ = some (.slice Aj nj cj) := Hy2.out.cell 1
    have y2 : w102.cell? ⟨W.heap.size, 2, none⟩ = some (.slice Ab nb cb) := Hy2.out.cell 2
    have y3 : w102.cell? ⟨W.heap.size, 3, none⟩ = some (.slice Ar nr cr) := Hy2.out.cell 3
    have q0 : w102.cell? ⟨W.heap.size + 1, 0, none⟩ = some (.int .i64 e) := Hq2.out.cell 0
    have q1 : w102.cell? ⟨W.heap.size + 1, 1, none⟩ = some (.int .i64 a) := Hq2.out.cell 1
    have q2 : w102.cell? ⟨W.heap.size + 1, 2, none⟩ = some (.bool r) := Hq2.out.cell 2
    go_wp2_with fail
    (try rw [hwn2])
    refine HC.out.mono ?_
    rintro en w103 ⟨rfl, hk3⟩
    have HK3 := Lib.hid (HK2.out.trans hk3)
    have Hy3 := Lib.hid (Hy2.out.keep hk3 (fun h => h))
    have Hq3 := Lib.hid (Hq2.out.keep hk3 (fun h => h))
    clear y0 y1 y2 y3 q0 q1 q2 hk3 HC
    clear u0 u1 u2 u3 hwn hwn2
    obtain ⟨w104, hw104⟩ : ∃ V : World, w103.alloc (.cells #[.int .i64 x1, .int .i64 x2, .bool x3] 29) = V := ⟨_, rfl⟩
    have kx : Keep Never w103 w104 := by rw [← hw104]; exact (Keep.refl _ _).alloc _
    have bx := Blk.new w103 29 #[.int .i64 x1, .int .i64 x2, .bool x3]
    rw [hw104] at bx
    obtain ⟨bX, hbX⟩ : ∃ q, w103.heap.size = q := ⟨_, rfl⟩
    rw [hbX] at bx
    have HBx4 := Lib.hid bx
    have HK4 := Lib.hid (HK3.out.trans kx)
    have Hy4 := Lib.hid (Hy3.out.keep kx (fun h => h))
    have Hq4 := Lib.hid (Hq3.out.keep kx (fun h => h))
    clear kx bx
    by_cases g : xe = 0
    case neg =>
      have t0 : (xe != 0) = true := by simpa using g
      have qz : ∀ w : World, (binOp .eql 29 (.agg #[.int .i64 x1, .int .i64 x2, .bool x3]) (.agg #[.int .i64 0, .int .i64 0, .bool false])).run Try.prog w = .ok (.bool true) w := by
        have h1 := walk_none (t := t) (p := (e, a, r)) (n := na + nb2) (by rw [HZx.out]; exact g)
        rw [HZx.out] at h1
        injection h1 with h1 h2
        injection h2 with h2 h3
        (try simp only at h1 h2 h3)
        subst h1 h2 h3
        exact fun w => run_eql_pos w 0 0 false
      clear g
      have X0 : w104.cell? ⟨bX, 0, none⟩ = some (.int .i64 x1) := HBx4.out.cell 0
      have X1 : w104.cell? ⟨bX, 1, none⟩ = some (.int .i64 x2) := HBx4.out.cell 1
      have X2 : w104.cell? ⟨bX, 2, none⟩ = some (.bool x3) := HBx4.out.cell 2
      go_wp2_with fail
      go_ret
      exact ⟨rfl, HK4.out⟩
    subst g
    have t0 : ((0 : Int) != 0) = false := by decide
    obtain ⟨⟨v1_, v2_, v3_⟩, hy1, hy2, hy3⟩ := walk_sum (t := t) (p := (e, a, r)) (a := na) (b := nb2) Hab.out.1 Hab.out.2 (by rw [HZx.out])
    rw [HZx.out] at hy2 hy3
    simp only at hy3
    have hw := HWk.out w104 e a r na HK4.out HLi.out
    rw [hy1] at hw
    unfold PsRet2 psV at hw
    dsimp only at hw
    have HC := Lib.hid hw
    have Hy2 := Lib.hid hy2
    have Hy3 := Lib.hid hy3
    clear hw hy1 hy2 hy3
    have y0 : w104.cell? ⟨W.heap.size, 0, none⟩ = some (.slice Ae ne ce) := Hy4.out.cell 0
    have y1 : w104.cell? ⟨W.heap.size, 1, none⟩ = some (.slice Aj nj cj) := Hy4.out.cell 1
    have y2 : w104.cell? ⟨W.heap.size, 2, none⟩ = some (.slice Ab nb cb) := Hy4.out.cell 2
    have y3 : w104.cell? ⟨W.heap.size, 3, none⟩ = some (.slice Ar nr cr) := Hy4.out.cell 3
    have q0 : w104.cell? ⟨W.heap.size + 1, 0, none⟩ = some (.int .i64 e) := Hq4.out.cell 0
    have q1 : w104.cell? ⟨W.heap.size + 1, 1, none⟩ = some (.int .i64 a) := Hq4.out.cell 1
    have q2 : w104.cell? ⟨W.heap.size + 1, 2, none⟩ = some (.bool r) := Hq4.out.cell 2
    go_wp2_with fail
    refine HC.out.mono ?_
    rintro en w105 ⟨rfl, hk5⟩
    have HK5 := Lib.hid (HK4.out.trans hk5)
    have Hy5 := Lib.hid (Hy4.out.keep hk5 (fun h => h))
    have Hq5 := Lib.hid (Hq4.out.keep hk5 (fun h => h))
    have HX5 := Lib.hid (HBx4.out.keep hk5 (fun h => h))
    clear y0 y1 y2 y3 q0 q1 q2 hk5 HC
    clear hw104 hbX
    obtain ⟨w106, hw106⟩ : ∃ V : World, w105.alloc (.cells #[.int .i64 v1_, .int .i64 v2_, .bool v3_] 29) = V := ⟨_, rfl⟩
    have kx : Keep Never w105 w106 := by rw [← hw106]; exact (Keep.refl _ _).alloc _
    have bx := Blk.new w105 29 #[.int .i64 v1_, .int .i64 v2_, .bool v3_]
    rw [hw106] at bx
    obtain ⟨bV, hbV⟩ : ∃ q, w105.heap.size = q := ⟨_, rfl⟩
    rw [hbV] at bx
    have HBx6 := Lib.hid bx
    have HK6 := Lib.hid (HK5.out.trans kx)
    have Hy6 := Lib.hid (Hy5.out.keep kx (fun h => h))
    have Hq6 := Lib.hid (Hq5.out.keep kx (fun h => h))
    have HX6 := Lib.hid (HX5.out.keep kx (fun h => h))
    clear kx bx
    have hw := HWk.out w106 v1_ v2_ v3_ nb2 HK6.out HLi.out
    rw [Hy2.out] at hw
    unfold PsRet2 psV at hw
    dsimp only at hw
    have HC := Lib.hid hw
    clear hw
    have y0 : w106.cell? ⟨W.heap.size, 0, none⟩ = some (.slice Ae ne ce) := Hy6.out.cell 0
    have y1 : w106.cell? ⟨W.heap.size, 1, none⟩ = some (.slice Aj nj cj) := Hy6.out.cell 1
    have y2 : w106.cell? ⟨W.heap.size, 2, none⟩ = some (.slice Ab nb cb) := Hy6.out.cell 2
    have y3 : w106.cell? ⟨W.heap.size, 3, none⟩ = some (.slice Ar nr cr) := Hy6.out.cell 3
    have V0 : w106.cell? ⟨bV, 0, none⟩ = some (.int .i64 v1_) := HBx6.out.cell 0
    have V1 : w106.cell? ⟨bV, 1, none⟩ = some (.int .i64 v2_) := HBx6.out.cell 1
    have V2 : w106.cell? ⟨bV, 2, none⟩ = some (.bool v3_) := HBx6.out.cell 2
    go_wp2_with fail
    refine HC.out.mono ?_
    rintro en w107 ⟨rfl, hk7⟩
    have HK7 := Lib.hid (HK6.out.trans hk7)
    have Hy7 := Lib.hid (Hy6.out.keep hk7 (fun h => h))
    have Hq7 := Lib.hid (Hq6.out.keep hk7 (fun h => h))
    have HX7 := Lib.hid (HX6.out.keep hk7 (fun h => h))
    have HV7 := Lib.hid (HBx6.out.keep hk7 (fun h => h))
    clear y0 y1 y2 y3 V0 V1 V2 hk7 HC
    clear hw106 hbV
    obtain ⟨w108, hw108⟩ : ∃ V : World, w107.alloc (.cells #[.int .i64 x1, .int .i64 x2, .bool x3] 29) = V := ⟨_, rfl⟩
    have kx : Keep Never w107 w108 := by rw [← hw108]; exact (Keep.refl _ _).alloc _
    have bx := Blk.new w107 29 #[.int .i64 x1, .int .i64 x2, .bool x3]
    rw [hw108] at bx
    obtain ⟨bZ, hbZ⟩ : ∃ q, w107.heap.size = q := ⟨_, rfl⟩
    rw [hbZ] at bx
    have HBx8 := Lib.hid bx
    have HK8 := Lib.hid (HK7.out.trans kx)
    have Hy8 := Lib.hid (Hy7.out.keep kx (fun h => h))
    have Hq8 := Lib.hid (Hq7.out.keep kx (fun h => h))
    have HX8 := Lib.hid (HX7.out.keep kx (fun h => h))
    have HV8 := Lib.hid (HV7.out.keep kx (fun h => h))
    clear kx bx
    have hw := HRi.out w108 x1 x2 x3 HK8.out HLi.out
    rw [Hy3.out] at hw
    have HC := Lib.hid hw
    clear hw
    have y0 : w108.cell? ⟨W.heap.size, 0, none⟩ = some (.slice Ae ne ce) := Hy8.out.cell 0
    have y1 : w108.cell? ⟨W.heap.size, 1, none⟩ = some (.slice Aj nj cj) := Hy8.out.cell 1
    have y2 : w108.cell? ⟨W.heap.size, 2, none⟩ = some (.slice Ab nb cb) := Hy8.out.cell 2
    have y3 : w108.cell? ⟨W.heap.size, 3, none⟩ = some (.slice Ar nr cr) := Hy8.out.cell 3
    have X0 : w108.cell? ⟨bX, 0, none⟩ = some (.int .i64 x1) := HX8.out.cell 0
    have X1 : w108.cell? ⟨bX, 1, none⟩ = some (.int .i64 x2) := HX8.out.cell 1
    have X2 : w108.cell? ⟨bX, 2, none⟩ = some (.bool x3) := HX8.out.cell 2
    have Z0 : w108.cell? ⟨bZ, 0, none⟩ = some (.int .i64 x1) := HBx8.out.cell 0
    have Z1 : w108.cell? ⟨bZ, 1, none⟩ = some (.int .i64 x2) := HBx8.out.cell 1
    have Z2 : w108.cell? ⟨bZ, 2, none⟩ = some (.bool x3) := HBx8.out.cell 2
    go_wp2_with fail
    refine HC.out.mono ?_
    rintro en w109 ⟨rfl, hk9⟩
    have HK9 := Lib.hid (HK8.out.trans hk9)
    have Hy9 := Lib.hid (Hy8.out.keep hk9 (fun h => h))
    have Hq9 := Lib.hid (Hq8.out.keep hk9 (fun h => h))
    have HX9 := Lib.hid (HX8.out.keep hk9 (fun h => h))
    have HV9 := Lib.hid (HV8.out.keep hk9 (fun h => h))
    have HZ9 := Lib.hid (HBx8.out.keep hk9 (fun h => h))
    clear y0 y1 y2 y3 X0 X1 X2 Z0 Z1 Z2 hk9 HC
    clear hw108 hbZ
    go_wp2_with fail
    go_ret
    exact ⟨rfl, HK9.out⟩

end Go.Proofs.Ytijdkjcjhfebfaa
