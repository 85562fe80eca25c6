/- Chapter 13: TopoChecks. -/
import Derived.Test.YtlcbajdckgcopaaRf13D
import Derived.Test.YtlcbajdckgcopaaTopT
namespace Go.Proofs.Ytlcbajdckgcopaa
open Go.RowKit

set_option maxRecDepth 100000 in
theorem run_eql_bal (w : World) (a b c : Int) : (binOp .eql 31 (.agg #[.int .i64 a, .int .i64 b, .int .i64 c]) (.agg #[.int .i64 a, .int .i64 b, .int .i64 c])).run Try.prog w = .ok (.bool true) w := by
  have t1 : (a == a) = true := by simp
  have t2 : (b == b) = true := by simp
  have t3 : (c == c) = true := by simp
  go_simp

set_option maxHeartbeats 40000000 in
set_option maxRecDepth 100000 in
theorem topoChecks_walk (W : World) (cs0 : Array Value) (t : Tp) (s0 : repTp.cells W W.heap.size t cs0.toList) (id : Int) (_b1 : -9223372036854775808 ≤ id) (_c1 : id ≤ 9223372036854775807) :
    Calls Try.prog 3 #[.agg cs0, .int .i64 id] W fun e W' => e = .returned (.bool true) ∧ Keep Never W W' := by
  obtain ⟨x, hx, ht⟩ := TpAt.of s0
  obtain rfl : cs0 = x.cs := by apply Array.ext'; exact hx
  clear s0 hx _b1 _c1
  have HLt : Hid (∀ w', Keep Never W w' → Calls Try.prog 15 #[.agg x.cs] w' fun e w'' => ∃ b, e = .returned (.bool b) ∧ Hid (b = true → TpLight x t) ∧ Keep Never w' w'') := Lib.hid (fun w' h => light13r_any x t W.heap.size w' (ht.keep h))
  have HBa : Hid (∀ w', Keep Never W w' → x.nb ≤ 100000000 → Calls Try.prog 16 #[.agg x.cs, .int .i64 id] w' (BalRet (balM t.2.2.1 id) w')) := Lib.hid (fun w' h hn => bal_any x t W.heap.size id w' (ht.keep h) hn)
  have HRo : Hid (∀ w', Keep Never W w' → TpLight x t → Calls Try.prog 18 #[.agg x.cs, .int .i64 id] w' (RtRet (rtM t.2.2.2 id) w')) := Lib.hid (fun w' h hl => route_any x t W.heap.size id w' (ht.keep h) (by have := hl.r; omega) (fun r hr => by have := hl.p r hr; omega) h.size)
  have HBr : Hid (∀ w', Keep Never W w' → x.nb ≤ 100000000 → Calls Try.prog 17 #[.agg x.cs, .int .i64 id] w' (BalRet (balM t.2.2.1 id) w')) := Lib.hid (fun w' h hn => rbal_any x t W.heap.size id w' (ht.keep h) hn)
  have HRr : Hid (∀ w', Keep Never W w' → TpLight x t → Calls Try.prog 19 #[.agg x.cs, .int .i64 id] w' (RtRet (rtM t.2.2.2 id) w')) := Lib.hid (fun w' h hl => rrt_any x t W.heap.size id w' (ht.keep h) (by have := hl.r; omega) h.size)
  have HC1 : Hid (∀ w', Keep Never W w' → TpLight x t → Calls Try.prog 21 #[.agg x.cs] w' fun e w'' => e = .returned (.int .i64 (checkM t)) ∧ Keep Never w' w'') := Lib.hid (fun w' h hl => check_any x t W.heap.size w' (ht.keep h) hl.small h.size)
  have HC2 : Hid (∀ w', Keep Never W w' → TpLight x t → Calls Try.prog 22 #[.agg x.cs] w' fun e w'' => e = .returned (.int .i64 (checkM t)) ∧ Keep Never w' w'') := Lib.hid (fun w' h hl => rcheck_any x t W.heap.size w' (ht.keep h) hl.small h.size)
  have HPl : Hid (TpLight x t → (rtM t.2.2.2 id).isSome = true → ((rtM t.2.2.2 id).getD (0, [], 0, 0)).2.1.length ≤ 100) := Lib.hid (fun hl hs => by
    obtain ⟨r, hr⟩ := Option.isSome_iff_exists.1 hs
    rw [hr]; exact hl.p r (List.mem_of_find?_eq_some hr))
  have qn : ∀ (w : World) (a b c : Int), (binOp .eql 31 (.agg #[.int .i64 a, .int .i64 b, .int .i64 c]) (.agg #[.int .i64 a, .int .i64 b, .int .i64 c])).run Try.prog w = .ok (.bool true) w := run_eql_bal
  have HL : Hid (x.nb = t.2.2.1.length ∧ x.nr = t.2.2.2.length) := Lib.hid ⟨ht.b.len, ht.r.len⟩
  obtain ⟨Ae, ne, ce, Aj, nj, cj, Ab, nb, cb, Ar, nr, cr⟩ := x
  simp only [TA.cs] at HLt HBa HRo HBr HRr HC1 HC2 HL ⊢
  clear ht
  obtain ⟨w1, hw1⟩ : ∃ wb : World, W.alloc (.cells #[.slice Ae ne ce, .slice Aj nj cj, .slice Ab nb cb, .slice Ar nr cr] 27) = wb := ⟨_, rfl⟩
  have k1 : Keep Never W w1 := by rw [← hw1]; exact (Keep.refl _ _).alloc _
  have c1 := Blk.new W 27 #[.slice Ae ne ce, .slice Aj nj cj, .slice Ab nb cb, .slice Ar nr cr]
  rw [hw1] at c1
  have HB1 := Lib.hid c1
  have HK := Lib.hid k1
  have HA := Lib.hid (awake13_any w1)
  clear k1 c1
  go_enter Try.func3, Try.ntmps3
  go_wp2_with fail
  refine HA.out.mono ?_
  rintro e w4 ⟨rfl, hk4⟩
  have HK4 := Lib.hid hk4
  have hb1 := HB1.out.keep hk4 (fun h => h)
  have y0 : w4.cell? ⟨W.heap.size, 0, none⟩ = some (.slice Ae ne ce) := hb1.cell 0
  have y1 : w4.cell? ⟨W.heap.size, 1, none⟩ = some (.slice Aj nj cj) := hb1.cell 1
  have y2 : w4.cell? ⟨W.heap.size, 2, none⟩ = some (.slice Ab nb cb) := hb1.cell 2
  have y3 : w4.cell? ⟨W.heap.size, 3, none⟩ = some (.slice Ar nr cr) := hb1.cell 3
  have HC := Lib.hid (HLt.out w4 (HK.out.trans hk4))
  clear hk4 hb1 HA HLt
  go_wp2_with fail
  refine HC.out.mono ?_
  rintro e w5 ⟨lt, rfl, hlt, hk5⟩
  have HK5 := Lib.hid (HK4.out.trans hk5)
  clear hk5 HC y0 y1 y2 y3
  cases lt with
  | false =>
    go_wp2_with fail
    go_ret
    exact ⟨rfl, HK.out.trans HK5.out⟩
  | true =>
    have HLi := Lib.hid (hlt.out rfl)
    have hnb : nb ≤ 100 := HLi.out.b
    have hnr : nr ≤ 100 := HLi.out.r
    clear hlt
    have hb1 := HB1.out.keep HK5.out (fun h => h)
    have y0 : w5.cell? ⟨W.heap.size, 0, none⟩ = some (.slice Ae ne ce) := hb1.cell 0
    have y1 : w5.cell? ⟨W.heap.size, 1, none⟩ = some (.slice Aj nj cj) := hb1.cell 1
    have y2 : w5.cell? ⟨W.heap.size, 2, none⟩ = some (.slice Ab nb cb) := hb1.cell 2
    have y3 : w5.cell? ⟨W.heap.size, 3, none⟩ = some (.slice Ar nr cr) := hb1.cell 3
    obtain ⟨ob, hob⟩ : ∃ b, balM t.2.2.1 id = b := ⟨_, rfl⟩
    rw [hob] at HBa HBr
    obtain ⟨o1, ho1⟩ : ∃ z, (ob.getD (0, 0, 0)).1 = z := ⟨_, rfl⟩
    obtain ⟨o2, ho2⟩ : ∃ z, (ob.getD (0, 0, 0)).2.1 = z := ⟨_, rfl⟩
    obtain ⟨o3, ho3⟩ : ∃ z, (ob.getD (0, 0, 0)).2.2 = z := ⟨_, rfl⟩
    obtain ⟨is, his⟩ : ∃ z, ob.isSome = z := ⟨_, rfl⟩
    have HPp := Lib.hid (HPl.out HLi.out)
    obtain ⟨rr, hrr⟩ : ∃ b, rtM t.2.2.2 id = b := ⟨_, rfl⟩
    rw [hrr] at HRo HRr HPp
    have HPq : Hid ((rr.getD (0, [], 0, 0)).2.1.length ≤ 100) := Lib.hid (by
      cases h : rr with
      | none => simp
      | some r => have := HPp.out (by rw [h]; rfl); rw [h] at this; exact this)
    obtain ⟨r1, hr1⟩ : ∃ z, (rr.getD (0, [], 0, 0)).1 = z := ⟨_, rfl⟩
    obtain ⟨r2, hr2⟩ : ∃ z, (rr.getD (0, [], 0, 0)).2.2.1 = z := ⟨_, rfl⟩
    obtain ⟨r3, hr3⟩ : ∃ z, (rr.getD (0, [], 0, 0)).2.2.2 = z := ⟨_, rfl⟩
    obtain ⟨rs, hrs⟩ : ∃ z, rr.isSome = z := ⟨_, rfl⟩
    obtain ⟨pp, hpp⟩ : ∃ z, (rr.getD (0, [], 0, 0)).2.1 = z := ⟨_, rfl⟩
    rw [hpp] at HPq
    have Hbal := Lib.hid (And.intro ho1 (And.intro ho2 (And.intro ho3 his)))
    have Hrt := Lib.hid (And.intro hr1 (And.intro hr2 (And.intro hr3 (And.intro hrs hpp))))
    clear hob hrr hb1 HPl HPp ho1 ho2 ho3 his hr1 hr2 hr3 hrs hpp
    obtain ⟨ho1, ho2, ho3, his⟩ := Hbal.out
    have HBc0 := HBa.out w5 (HK.out.trans HK5.out) (by omega)
    unfold BalRet at HBc0
    rw [ho1, ho2, ho3, his] at HBc0
    have HBc := Lib.hid HBc0
    clear HBc0 ho1 ho2 ho3 his
    go_wp2_with fail
    refine HBc.out.mono ?_
    rintro e w6 ⟨rfl, hk6⟩
    obtain ⟨w7, hw7⟩ : ∃ W : World, w6.alloc (.cells #[.int .i64 o1, .int .i64 o2, .int .i64 o3] 31) = W := ⟨_, rfl⟩
    have k7 : Keep Never w6 w7 := by rw [← hw7]; exact (Keep.refl _ _).alloc _
    have c7 := Blk.new w6 31 #[.int .i64 o1, .int .i64 o2, .int .i64 o3]
    rw [hw7] at c7
    obtain ⟨ab, hab⟩ : ∃ q, w6.heap.size = q := ⟨_, rfl⟩
    rw [hab] at c7
    have HK7 := Lib.hid (HK5.out.trans (hk6.trans k7))
    have HBb := Lib.hid c7
    clear y0 y1 y2 y3
    have hb1 := HB1.out.keep HK7.out (fun h => h)
    have y0 : w7.cell? ⟨W.heap.size, 0, none⟩ = some (.slice Ae ne ce) := hb1.cell 0
    have y1 : w7.cell? ⟨W.heap.size, 1, none⟩ = some (.slice Aj nj cj) := hb1.cell 1
    have y2 : w7.cell? ⟨W.heap.size, 2, none⟩ = some (.slice Ab nb cb) := hb1.cell 2
    have y3 : w7.cell? ⟨W.heap.size, 3, none⟩ = some (.slice Ar nr cr) := hb1.cell 3
    clear hk6 k7 c7 HBc hb1
    go_wp2_with fail
    clear hw7 hab
    obtain ⟨ho1, ho2, ho3, his⟩ := Hbal.out
    have HBc0 := HBr.out w7 (HK.out.trans HK7.out) (by omega)
    unfold BalRet at HBc0
    rw [ho1, ho2, ho3, his] at HBc0
    have HBc := Lib.hid HBc0
    clear HBc0 ho1 ho2 ho3 his
    go_wp2_with fail
    refine HBc.out.mono ?_
    rintro e w8 ⟨rfl, hk6⟩
    obtain ⟨w9, hw7⟩ : ∃ W : World, w8.alloc (.cells #[.int .i64 o1, .int .i64 o2, .int .i64 o3] 31) = W := ⟨_, rfl⟩
    have k7 : Keep Never w8 w9 := by rw [← hw7]; exact (Keep.refl _ _).alloc _
    have c7 := Blk.new w8 31 #[.int .i64 o1, .int .i64 o2, .int .i64 o3]
    rw [hw7] at c7
    obtain ⟨bb, hbb⟩ : ∃ q, w8.heap.size = q := ⟨_, rfl⟩
    rw [hbb] at c7
    have HK9 := Lib.hid (HK7.out.trans (hk6.trans k7))
    have HK79 := Lib.hid (hk6.trans k7)
    have HBc9 := Lib.hid c7
    clear y0 y1 y2 y3
    have hb1 := HB1.out.keep HK9.out (fun h => h)
    have y0 : w9.cell? ⟨W.heap.size, 0, none⟩ = some (.slice Ae ne ce) := hb1.cell 0
    have y1 : w9.cell? ⟨W.heap.size, 1, none⟩ = some (.slice Aj nj cj) := hb1.cell 1
    have y2 : w9.cell? ⟨W.heap.size, 2, none⟩ = some (.slice Ab nb cb) := hb1.cell 2
    have y3 : w9.cell? ⟨W.heap.size, 3, none⟩ = some (.slice Ar nr cr) := hb1.cell 3
    clear hk6 k7 c7 HBc hb1
    go_wp2_with fail
    clear hw7 hbb
    obtain ⟨hr1, hr2, hr3, hrs, hpp⟩ := Hrt.out
    have HBc0 := HRo.out w9 (HK.out.trans HK9.out) HLi.out
    unfold RtRet at HBc0
    rw [hr1, hr2, hr3, hrs, hpp] at HBc0
    have HBc := Lib.hid HBc0
    clear HBc0 hr1 hr2 hr3 hrs hpp
    go_wp2_with fail
    refine HBc.out.mono ?_
    rintro e w10 ⟨A1, A1n, A1c, rfl, hsl, hk6⟩
    obtain ⟨w11, hw7⟩ : ∃ W : World, w10.alloc (.cells #[.int .i64 r1, .slice A1 A1n A1c, .int .i64 r2, .int .i64 r3] 36) = W := ⟨_, rfl⟩
    have k7 : Keep Never w10 w11 := by rw [← hw7]; exact (Keep.refl _ _).alloc _
    have c7 := Blk.new w10 36 #[.int .i64 r1, .slice A1 A1n A1c, .int .i64 r2, .int .i64 r3]
    rw [hw7] at c7
    obtain ⟨pb, hpb⟩ : ∃ q, w10.heap.size = q := ⟨_, rfl⟩
    rw [hpb] at c7
    have HK11 := Lib.hid (HK9.out.trans (hk6.trans k7))
    have HK911 := Lib.hid (hk6.trans k7)
    have HR1 := Lib.hid c7
    have HR1S := Lib.hid (hsl.keep k7 (fun _ h => h.elim))
    clear y0 y1 y2 y3
    have hb1 := HB1.out.keep HK11.out (fun h => h)
    have y0 : w11.cell? ⟨W.heap.size, 0, none⟩ = some (.slice Ae ne ce) := hb1.cell 0
    have y1 : w11.cell? ⟨W.heap.size, 1, none⟩ = some (.slice Aj nj cj) := hb1.cell 1
    have y2 : w11.cell? ⟨W.heap.size, 2, none⟩ = some (.slice Ab nb cb) := hb1.cell 2
    have y3 : w11.cell? ⟨W.heap.size, 3, none⟩ = some (.slice Ar nr cr) := hb1.cell 3
    clear hk6 k7 c7 HBc hb1 hsl
    go_wp2_with fail
    clear hw7 hpb
    obtain ⟨hr1, hr2, hr3, hrs, hpp⟩ := Hrt.out
    have HBc0 := HRr.out w11 (HK.out.trans HK11.out) HLi.out
    unfold RtRet at HBc0
    rw [hr1, hr2, hr3, hrs, hpp] at HBc0
    have HBc := Lib.hid HBc0
    clear HBc0 hr1 hr2 hr3 hrs hpp
    go_wp2_with fail
    refine HBc.out.mono ?_
    rintro e w12 ⟨A2, A2n, A2c, rfl, hsl, hk6⟩
    obtain ⟨w13, hw7⟩ : ∃ W : World, w12.alloc (.cells #[.int .i64 r1, .slice A2 A2n A2c, .int .i64 r2, .int .i64 r3] 36) = W := ⟨_, rfl⟩
    have k7 : Keep Never w12 w13 := by rw [← hw7]; exact (Keep.refl _ _).alloc _
    have c7 := Blk.new w12 36 #[.int .i64 r1, .slice A2 A2n A2c, .int .i64 r2, .int .i64 r3]
    rw [hw7] at c7
    obtain ⟨qb, hqb⟩ : ∃ q, w12.heap.size = q := ⟨_, rfl⟩
    rw [hqb] at c7
    have HK13 := Lib.hid (HK11.out.trans (hk6.trans k7))
    have HK1113 := Lib.hid (hk6.trans k7)
    have HK914 := Lib.hid (fun w (h : Keep Never w13 w) => HK911.out.trans (HK1113.out.trans h))
    have HK714 := Lib.hid (fun w (h : Keep Never w13 w) => HK79.out.trans (HK914.out w h))
    have HR2 := Lib.hid c7
    have HR2S := Lib.hid (hsl.keep k7 (fun _ h => h.elim))
    clear y0 y1 y2 y3
    have hb1 := HB1.out.keep HK13.out (fun h => h)
    have y0 : w13.cell? ⟨W.heap.size, 0, none⟩ = some (.slice Ae ne ce) := hb1.cell 0
    have y1 : w13.cell? ⟨W.heap.size, 1, none⟩ = some (.slice Aj nj cj) := hb1.cell 1
    have y2 : w13.cell? ⟨W.heap.size, 2, none⟩ = some (.slice Ab nb cb) := hb1.cell 2
    have y3 : w13.cell? ⟨W.heap.size, 3, none⟩ = some (.slice Ar nr cr) := hb1.cell 3
    clear hk6 k7 c7 HBc hb1 hsl
    have hk1113 : Keep Never w11 w13 := HK1113.out
    have hr1b := HR1.out.keep hk1113 (fun h => h)
    have hr2b := HR2.out
    have e0 : w13.cell? ⟨pb, 0, none⟩ = some (.int .i64 r1) := hr1b.cell 0
    have e1 : w13.cell? ⟨pb, 1, none⟩ = some (.slice A1 A1n A1c) := hr1b.cell 1
    have e2 : w13.cell? ⟨pb, 2, none⟩ = some (.int .i64 r2) := hr1b.cell 2
    have e3 : w13.cell? ⟨pb, 3, none⟩ = some (.int .i64 r3) := hr1b.cell 3
    have f0 : w13.cell? ⟨qb, 0, none⟩ = some (.int .i64 r1) := hr2b.cell 0
    have f1 : w13.cell? ⟨qb, 1, none⟩ = some (.slice A2 A2n A2c) := hr2b.cell 1
    have f2 : w13.cell? ⟨qb, 2, none⟩ = some (.int .i64 r2) := hr2b.cell 2
    have f3 : w13.cell? ⟨qb, 3, none⟩ = some (.int .i64 r3) := hr2b.cell 3
    obtain ⟨s1, s2, s3, _⟩ := stps_rd (HR1S.out.keep hk1113 (fun _ h => h.elim))
    obtain ⟨s1', s2', s3', _⟩ := stps_rd HR2S.out
    have hA1n : A1n ≤ 100000000 := by have := HPq.out; omega
    have hA2n : A2n ≤ 100000000 := by have := HPq.out; omega
    have hsm := sameRt_any (r1, pp, r2, r3) (r1, pp, r2, r3) A1 A2 A1n A2n A1c A2c _ _ w13 s1 s1' hA1n hA2n
    simp only [decide_true, rtV] at hsm
    have HSm := Lib.hid hsm
    clear hsm s1 s2 s3 s1' s2' s3' hr1b hr2b hk1113
    go_wp2_with fail
    refine HSm.out.mono ?_
    rintro e w14 ⟨rfl, hk14⟩
    have HK14 := Lib.hid (HK13.out.trans hk14)
    clear y0 y1 y2 y3
    have hb1 := HB1.out.keep HK14.out (fun h => h)
    have y0 : w14.cell? ⟨W.heap.size, 0, none⟩ = some (.slice Ae ne ce) := hb1.cell 0
    have y1 : w14.cell? ⟨W.heap.size, 1, none⟩ = some (.slice Aj nj cj) := hb1.cell 1
    have y2 : w14.cell? ⟨W.heap.size, 2, none⟩ = some (.slice Ab nb cb) := hb1.cell 2
    have y3 : w14.cell? ⟨W.heap.size, 3, none⟩ = some (.slice Ar nr cr) := hb1.cell 3
    have hba := HBb.out.keep (HK714.out w14 hk14) (fun h => h)
    have hbb := HBc9.out.keep (HK914.out w14 hk14) (fun h => h)
    have a0 : w14.cell? ⟨ab, 0, none⟩ = some (.int .i64 o1) := hba.cell 0
    have a1 : w14.cell? ⟨ab, 1, none⟩ = some (.int .i64 o2) := hba.cell 1
    have a2 : w14.cell? ⟨ab, 2, none⟩ = some (.int .i64 o3) := hba.cell 2
    have b0 : w14.cell? ⟨bb, 0, none⟩ = some (.int .i64 o1) := hbb.cell 0
    have b1 : w14.cell? ⟨bb, 1, none⟩ = some (.int .i64 o2) := hbb.cell 1
    have b2 : w14.cell? ⟨bb, 2, none⟩ = some (.int .i64 o3) := hbb.cell 2
    have HX1 := Lib.hid (fun w (h : Keep Never w14 w) => HC1.out w (HK.out.trans (HK14.out.trans h)) HLi.out)
    have HX2 := Lib.hid (fun w (h : Keep Never w14 w) => HC2.out w (HK.out.trans (HK14.out.trans h)) HLi.out)
    obtain ⟨ck, hck⟩ : ∃ z, checkM t = z := ⟨_, rfl⟩
    rw [hck] at HX1 HX2
    have HS2 : Hid (∀ W', Keep Never w14 W' → Keep Never w14 W' ∧ W'.cell? ⟨W.heap.size, 0, none⟩ = some (.slice Ae ne ce) ∧ W'.cell? ⟨W.heap.size, 1, none⟩ = some (.slice Aj nj cj) ∧ W'.cell? ⟨W.heap.size, 2, none⟩ = some (.slice Ab nb cb) ∧ W'.cell? ⟨W.heap.size, 3, none⟩ = some (.slice Ar nr cr) ∧ W'.cell? ⟨ab, 0, none⟩ = some (.int .i64 o1) ∧ W'.cell? ⟨ab, 1, none⟩ = some (.int .i64 o2) ∧ W'.cell? ⟨ab, 2, none⟩ = some (.int .i64 o3) ∧ W'.cell? ⟨bb, 0, none⟩ = some (.int .i64 o1) ∧ W'.cell? ⟨bb, 1, none⟩ = some (.int .i64 o2) ∧ W'.cell? ⟨bb, 2, none⟩ = some (.int .i64 o3)) := Lib.hid (fun W' h => ⟨h, keepT h y0, keepT h y1, keepT h y2, keepT h y3, keepT h a0, keepT h a1, keepT h a2, keepT h b0, keepT h b1, keepT h b2⟩)
    clear hk14 HSm hb1 hba hbb hck hw7 hqb e0 e1 e2 e3 f0 f1 f2 f3 HC1 HC2
    go_wp2_with fail
    clear y0 y1 y2 y3 a0 a1 a2 b0 b1 b2
    go_region_held3 (fun W' => Keep Never w14 W' ∧ W'.cell? ⟨W.heap.size, 0, none⟩ = some (.slice Ae ne ce) ∧ W'.cell? ⟨W.heap.size, 1, none⟩ = some (.slice Aj nj cj) ∧ W'.cell? ⟨W.heap.size, 2, none⟩ = some (.slice Ab nb cb) ∧ W'.cell? ⟨W.heap.size, 3, none⟩ = some (.slice Ar nr cr) ∧ W'.cell? ⟨ab, 0, none⟩ = some (.int .i64 o1) ∧ W'.cell? ⟨ab, 1, none⟩ = some (.int .i64 o2) ∧ W'.cell? ⟨ab, 2, none⟩ = some (.int .i64 o3) ∧ W'.cell? ⟨bb, 0, none⟩ = some (.int .i64 o1) ∧ W'.cell? ⟨bb, 1, none⟩ = some (.int .i64 o2) ∧ W'.cell? ⟨bb, 2, none⟩ = some (.int .i64 o3))
      (first | assumption | exact HS2.out _ ((Keep.refl Never w14).drew) | exact HS2.out _ (Keep.trans (And.left (by assumption)) hk3) | exact HS2.out _ (Keep.trans ((Keep.refl Never w14).drew) hk3))
      (first
        | (go_at_call 21; refine (HX1.out _ (by first | exact And.left (by assumption) | exact (Keep.refl Never w14).drew | exact Keep.refl Never w14)).mono ?_; rintro e w3 ⟨rfl, hk3⟩)
        | (go_at_call 22; refine (HX2.out _ (by first | exact And.left (by assumption) | exact (Keep.refl Never w14).drew | exact Keep.refl Never w14)).mono ?_; rintro e w3 ⟨rfl, hk3⟩))
    all_goals
      rename_i hS
      have HKe := Lib.hid (HK.out.trans (HK14.out.trans hS.1))
      clear hS
      go_wp2_with fail
      go_ret
      exact ⟨rfl, HKe.out⟩

end Go.Proofs.Ytlcbajdckgcopaa
