/- Chapter 13: TopoFinds. -/
import Derived.Test.YtlcbajdckgcopaaTopS
namespace Go.Proofs.Ytlcbajdckgcopaa
open Go.RowKit

theorem run_neq_bal (w : World) (a b c : Int) : (binOp .neq 31 (.agg #[.int .i64 a, .int .i64 b, .int .i64 c]) (.agg #[.int .i64 a, .int .i64 b, .int .i64 c])).run Try.prog w = .ok (.bool false) w := by
  have t1 : (a == a) = true := by simp
  have t2 : (b == b) = true := by simp
  have t3 : (c == c) = true := by simp
  go_simp
theorem bal_hit {l : List Bl} {id : Int} {k : Nat} {b : Bl} (h : l[k]? = some b) (hb : b.1 = id) (ha : ∀ x ∈ l.take k, x.1 ≠ id) : balM l id = some b := find_idx h (by simpa using hb) (fun x hx => by simpa using ha x hx)
theorem bal_miss {l : List Bl} {id : Int} (ha : ∀ x ∈ l, x.1 ≠ id) : balM l id = none := find_no (fun x hx => by simpa using ha x hx)
theorem rt_hit {l : List Rt} {id : Int} {k : Nat} {b : Rt} (h : l[k]? = some b) (hb : b.1 = id) (ha : ∀ x ∈ l.take k, x.1 ≠ id) : rtM l id = some b := find_idx h (by simpa using hb) (fun x hx => by simpa using ha x hx)
theorem rt_miss {l : List Rt} {id : Int} (ha : ∀ x ∈ l, x.1 ≠ id) : rtM l id = none := find_no (fun x hx => by simpa using ha x hx)
theorem all_take {α : Type} {l : List α} {k : Nat} {b : α} {p : α → Prop} (h : l[k]? = some b) (ha : ∀ x ∈ l.take k, p x) (hb : p b) : ∀ x ∈ l.take (k + 1), p x := by
  obtain ⟨h2, h3⟩ := List.getElem?_eq_some_iff.1 h
  rw [List.take_succ_eq_append_getElem h2, h3]
  intro x hx
  rcases List.mem_append.1 hx with hx | hx
  · exact ha x hx
  · simp at hx; subst hx; exact hb

set_option maxHeartbeats 40000000 in
set_option maxRecDepth 100000 in
theorem topoFinds_walk (W : World) (cs0 : Array Value) (t : Tp) (s0 : repTp.cells W W.heap.size t cs0.toList) (id : Int) (_b1 : -9223372036854775808 ≤ id) (_c1 : id ≤ 9223372036854775807) :
    Calls Try.prog 6 #[.agg cs0, .int .i64 id] W fun e W' => e = .returned (.bool true) ∧ Keep Never W W' := by
  obtain ⟨x, hx, ht⟩ := TpAt.of s0
  obtain rfl : cs0 = x.cs := by apply Array.ext'; exact hx
  clear s0 hx _b1 _c1
  have HLt : Hid (∀ w', Keep Never W w' → Calls Try.prog 15 #[.agg x.cs] w' fun e w'' => ∃ b, e = .returned (.bool b) ∧ Hid (b = true → TpLight x t) ∧ Keep Never w' w'') := Lib.hid (fun w' h => light13r_any x t W.heap.size w' (ht.keep h))
  have HBa : Hid (∀ w', Keep Never W w' → x.nb ≤ 100000000 → Calls Try.prog 16 #[.agg x.cs, .int .i64 id] w' (BalRet (balM t.2.2.1 id) w')) := Lib.hid (fun w' h hn => bal_any x t W.heap.size id w' (ht.keep h) hn)
  have HRo : Hid (∀ w', Keep Never W w' → TpLight x t → Calls Try.prog 18 #[.agg x.cs, .int .i64 id] w' (RtRet (rtM t.2.2.2 id) w')) := Lib.hid (fun w' h hl => route_any x t W.heap.size id w' (ht.keep h) (by have := hl.r; omega) (fun r hr => by have := hl.p r hr; omega) h.size)
  have HTp := Lib.hid ht
  have HL : Hid (x.nb = t.2.2.1.length ∧ x.nr = t.2.2.2.length) := Lib.hid ⟨ht.b.len, ht.r.len⟩
  have qn : ∀ (w : World) (a b c : Int), (binOp .neq 31 (.agg #[.int .i64 a, .int .i64 b, .int .i64 c]) (.agg #[.int .i64 a, .int .i64 b, .int .i64 c])).run Try.prog w = .ok (.bool false) w := run_neq_bal
  obtain ⟨Ae, ne, ce, Aj, nj, cj, Ab, nb, cb, Ar, nr, cr⟩ := x
  simp only [TA.cs] at HLt HBa HRo HL ⊢
  clear ht
  obtain ⟨w1, hw1⟩ : ∃ wb : World, W.alloc (.cells #[.slice Ae ne ce, .slice Aj nj cj, .slice Ab nb cb, .slice Ar nr cr] 27) = wb := ⟨_, rfl⟩
  have k1 : Keep Never W w1 := by rw [← hw1]; exact (Keep.refl _ _).alloc _
  have c1 := Blk.new W 27 #[.slice Ae ne ce, .slice Aj nj cj, .slice Ab nb cb, .slice Ar nr cr]
  rw [hw1] at c1
  have HB1 := Lib.hid c1
  have HK := Lib.hid k1
  have HA := Lib.hid (awake13_any w1)
  clear k1 c1
  go_enter Try.func6, Try.ntmps6
  go_wp2_with fail
  refine HA.out.mono ?_
  rintro e w4 ⟨rfl, hk4⟩
  have HK4 := Lib.hid hk4
  have hb1 := HB1.out.keep hk4 (fun h => h)
  have y0 : w4.cell? ⟨W.heap.size, 0, none⟩ = some (.slice Ae ne ce) := hb1.cell 0
  have y1 : w4.cell? ⟨W.heap.size, 1, none⟩ = some (.slice Aj nj cj) := hb1.cell 1
  have y2 : w4.cell? ⟨W.heap.size, 2, none⟩ = some (.slice Ab nb cb) := hb1.cell 2
  have y3 : w4.cell? ⟨W.heap.size, 3, none⟩ = some (.slice Ar nr cr) := hb1.cell 3
  have HC := Lib.hid (HLt.out w4 (HK.out.trans hk4))
  clear hk4 hb1 HA HLt
  go_wp2_with fail
  refine HC.out.mono ?_
  rintro e w5 ⟨lt, rfl, hlt, hk5⟩
  have HK5 := Lib.hid (HK4.out.trans hk5)
  clear hk5 HC y0 y1 y2 y3
  cases lt with
  | false =>
    go_wp2_with fail
    go_ret
    exact ⟨rfl, HK.out.trans HK5.out⟩
  | true =>
    have HLi := Lib.hid (hlt.out rfl)
    have hnb : nb ≤ 100 := HLi.out.b
    have hnr : nr ≤ 100 := HLi.out.r
    clear hlt
    have hb1 := HB1.out.keep HK5.out (fun h => h)
    have y0 : w5.cell? ⟨W.heap.size, 0, none⟩ = some (.slice Ae ne ce) := hb1.cell 0
    have y1 : w5.cell? ⟨W.heap.size, 1, none⟩ = some (.slice Aj nj cj) := hb1.cell 1
    have y2 : w5.cell? ⟨W.heap.size, 2, none⟩ = some (.slice Ab nb cb) := hb1.cell 2
    have y3 : w5.cell? ⟨W.heap.size, 3, none⟩ = some (.slice Ar nr cr) := hb1.cell 3
    have HBc0 := HBa.out w5 (HK.out.trans HK5.out) (by omega)
    obtain ⟨ob, hob⟩ : ∃ b, balM t.2.2.1 id = b := ⟨_, rfl⟩
    rw [hob] at HBc0
    obtain ⟨o1, ho1⟩ : ∃ z, (ob.getD (0, 0, 0)).1 = z := ⟨_, rfl⟩
    obtain ⟨o2, ho2⟩ : ∃ z, (ob.getD (0, 0, 0)).2.1 = z := ⟨_, rfl⟩
    obtain ⟨o3, ho3⟩ : ∃ z, (ob.getD (0, 0, 0)).2.2 = z := ⟨_, rfl⟩
    obtain ⟨is, his⟩ : ∃ z, ob.isSome = z := ⟨_, rfl⟩
    unfold BalRet at HBc0
    rw [ho1, ho2, ho3, his] at HBc0
    have HBc := Lib.hid HBc0
    have HOb : Hid (∀ s1 s2 s3, balM t.2.2.1 id = some (s1, s2, s3) → o1 = s1 ∧ o2 = s2 ∧ o3 = s3 ∧ is = true) := Lib.hid (fun s1 s2 s3 h => by
      rw [hob] at h
      subst h
      exact ⟨ho1.symm, ho2.symm, ho3.symm, his.symm⟩)
    have HOn : Hid (balM t.2.2.1 id = none → is = false) := Lib.hid (fun h => by rw [hob] at h; subst h; exact his.symm)
    clear hob ho1 ho2 ho3 his HBc0 hb1 HBa
    go_wp2_with fail
    refine HBc.out.mono ?_
    rintro e w6 ⟨rfl, hk6⟩
    obtain ⟨w7, hw7⟩ : ∃ W : World, w6.alloc (.cells #[.int .i64 o1, .int .i64 o2, .int .i64 o3] 31) = W := ⟨_, rfl⟩
    have k7 : Keep Never w6 w7 := by rw [← hw7]; exact (Keep.refl _ _).alloc _
    have c7 := Blk.new w6 31 #[.int .i64 o1, .int .i64 o2, .int .i64 o3]
    rw [hw7] at c7
    have HK7 := Lib.hid (HK5.out.trans (hk6.trans k7))
    have HBb := Lib.hid c7
    clear hk6 k7 c7 HBc y0 y1 y2 y3
    go_wp2_with fail
    clear hw7
    go_loopw [9] (fun i wr => ∃ k : Nat, k ≤ nb ∧ i = .int .i64 k ∧ Hid (Keep Never w7 wr ∧ ∀ x ∈ t.2.2.1.take k, x.1 ≠ id)) (fun i _ => nb - (intOf i).toNat)
    case atStart => exact ⟨0, by omega, rfl, Lib.hid ⟨Keep.refl _ _, by simp⟩⟩
    case round =>
      obtain ⟨k, hk, rfl, HH⟩ := hrel
      have y2 : wr.cell? ⟨W.heap.size, 2, none⟩ = some (.slice Ab nb cb) := (HB1.out.keep (HK7.out.trans HH.out.1) (fun h => h)).cell 2
      by_cases h0 : k < nb
      · have hkz : (k : Int) < (nb : Int) := by omega
        obtain ⟨ad, b, hA, _, hb, c0, c1, c2⟩ := (bl_rd (HTp.out.keep (HK.out.trans (HK7.out.trans HH.out.1))).b).sp h0
        simp only at hA
        subst hA
        obtain ⟨s1, s2, s3⟩ := b
        simp only at c0 c1 c2
        have Hb := Lib.hid hb
        have hbb := HBb.out.keep HH.out.1 (fun h => h)
        have d0 : wr.cell? ⟨w6.heap.size, 0, none⟩ = some (.int .i64 o1) := hbb.cell 0
        have d1 : wr.cell? ⟨w6.heap.size, 1, none⟩ = some (.int .i64 o2) := hbb.cell 1
        have d2 : wr.cell? ⟨w6.heap.size, 2, none⟩ = some (.int .i64 o3) := hbb.cell 2
        clear hb hbb
        by_cases g : s1 = id
        · have t1 : (s1 == id) = true := by simpa using g
          have HM := Lib.hid (bal_hit Hb.out g HH.out.2)
          obtain ⟨e1, e2, e3, e4⟩ := HOb.out _ _ _ HM.out
          subst e1 e2 e3 e4
          have HN0 : Hid (nb = 0 → true = false) := Lib.hid (fun h => by omega)
          clear g HOb HOn
          have HGt : Hid (0 < nb) := Lib.hid (by omega)
          go_wp2_with fail
          go_quiet (fail)
          have HKr := Lib.hid (HK7.out.trans (HH.out.1.drewN nq))
          clear HH d0 d1 d2 c0 c1 c2 t1 h0 hkz y2
          have HLi2 := HLi
          have HRc0 := HRo.out (wr.drewN nq) (HK.out.trans HKr.out) HLi.out
          obtain ⟨o, ho⟩ : ∃ b, rtM t.2.2.2 id = b := ⟨_, rfl⟩
          rw [ho] at HRc0
          obtain ⟨q1, hq1⟩ : ∃ z, (o.getD (0, [], 0, 0)).1 = z := ⟨_, rfl⟩
          obtain ⟨q2, hq2⟩ : ∃ z, (o.getD (0, [], 0, 0)).2.1 = z := ⟨_, rfl⟩
          obtain ⟨q3, hq3⟩ : ∃ z, (o.getD (0, [], 0, 0)).2.2.1 = z := ⟨_, rfl⟩
          obtain ⟨q4, hq4⟩ : ∃ z, (o.getD (0, [], 0, 0)).2.2.2 = z := ⟨_, rfl⟩
          obtain ⟨th, hth⟩ : ∃ z, o.isSome = z := ⟨_, rfl⟩
          unfold RtRet at HRc0
          rw [hq1, hq2, hq3, hq4, hth] at HRc0
          have HRc := Lib.hid HRc0
          have HOr : Hid (∀ r, rtM t.2.2.2 id = some r → (q1, q2, q3, q4) = r ∧ th = true) := Lib.hid (fun r h => by
            rw [ho] at h
            subst h
            exact ⟨by rw [← hq1, ← hq2, ← hq3, ← hq4]; rfl, hth.symm⟩)
          have HOrn : Hid (rtM t.2.2.2 id = none → th = false) := Lib.hid (fun h => by rw [ho] at h; subst h; exact hth.symm)
          have HQ2 : Hid (q2.length ≤ 100) := Lib.hid (by
            cases o with
            | none => rw [← hq2]; exact Nat.zero_le _
            | some r => rw [← hq2]; exact HLi.out.p r (List.mem_of_find?_eq_some ho))
          have y0 : (wr.drewN nq).cell? ⟨W.heap.size, 0, none⟩ = some (.slice Ae ne ce) := (HB1.out.keep HKr.out (fun h => h)).cell 0
          have y1 : (wr.drewN nq).cell? ⟨W.heap.size, 1, none⟩ = some (.slice Aj nj cj) := (HB1.out.keep HKr.out (fun h => h)).cell 1
          have y2 : (wr.drewN nq).cell? ⟨W.heap.size, 2, none⟩ = some (.slice (some ad) nb cb) := (HB1.out.keep HKr.out (fun h => h)).cell 2
          have y3 : (wr.drewN nq).cell? ⟨W.heap.size, 3, none⟩ = some (.slice Ar nr cr) := (HB1.out.keep HKr.out (fun h => h)).cell 3
          clear hq1 hq2 hq3 hq4 hth HRc0 HRo ho
          go_wp2_with fail
          refine HRc.out.mono ?_
          rintro e w8 ⟨A5, n5, c5, rfl, hs5, hk8⟩
          obtain ⟨w9, hw9⟩ : ∃ W : World, w8.alloc (.cells #[.int .i64 q1, .slice A5 n5 c5, .int .i64 q3, .int .i64 q4] 36) = W := ⟨_, rfl⟩
          have k9 : Keep Never w8 w9 := by rw [← hw9]; exact (Keep.refl _ _).alloc _
          have c9 := Blk.new w8 36 #[.int .i64 q1, .slice A5 n5 c5, .int .i64 q3, .int .i64 q4]
          rw [hw9] at c9
          have HK9 := Lib.hid (HKr.out.trans (hk8.trans k9))
          have HB9 := Lib.hid c9
          have HS9 := Lib.hid (hs5.keep k9 (fun _ h => h.elim))
          have HN5 : Hid (n5 ≤ 100000000) := Lib.hid (by have := hs5.len; have := HQ2.out; omega)
          clear hk8 k9 c9 HRc y0 y1 y2 y3 hs5 HQ2
          go_wp2_with fail
          clear hw9
          go_loopw [12] (fun i wr => ∃ k : Nat, k ≤ nr ∧ i = .int .i64 k ∧ Hid (Keep Never w9 wr ∧ ∀ x ∈ t.2.2.2.take k, x.1 ≠ id)) (fun i _ => nr - (intOf i).toNat)
          case atStart => exact ⟨0, by omega, rfl, Lib.hid ⟨Keep.refl _ _, by simp⟩⟩
          case round =>
            obtain ⟨j, hj, rfl, HJ⟩ := hrel
            have HKj := Lib.hid (HK9.out.trans HJ.out.1)
            have y3 : wr.cell? ⟨W.heap.size, 3, none⟩ = some (.slice Ar nr cr) := (HB1.out.keep HKj.out (fun h => h)).cell 3
            by_cases h1 : j < nr
            · have hjz : (j : Int) < (nr : Int) := by omega
              obtain ⟨ad2, r, A2, n2, d2, hA2, _, hr, c0, c1, c2, c3, hsl⟩ := rt_at2 (HTp.out.keep (HK.out.trans HKj.out)).r h1
              simp only at hA2
              subst hA2
              obtain ⟨x1, p, x2, x3⟩ := r
              simp only at c0 c1 c2 c3 hsl
              have hbb := HB9.out.keep HJ.out.1 (fun h => h)
              have d0 : wr.cell? ⟨w8.heap.size, 0, none⟩ = some (.int .i64 q1) := hbb.cell 0
              have d1 : wr.cell? ⟨w8.heap.size, 1, none⟩ = some (.slice A5 n5 c5) := hbb.cell 1
              have d2' : wr.cell? ⟨w8.heap.size, 2, none⟩ = some (.int .i64 q3) := hbb.cell 2
              have d3 : wr.cell? ⟨w8.heap.size, 3, none⟩ = some (.int .i64 q4) := hbb.cell 3
              have HN2 : Hid (n2 ≤ 100000000) := Lib.hid (by have h5 : p.length ≤ 100 := HLi.out.p _ (List.mem_of_getElem? hr); have := hsl.len; omega)
              obtain ⟨sm, hsm⟩ : ∃ z, decide (((q1, q2, q3, q4) : Rt) = (x1, p, x2, x3)) = z := ⟨_, rfl⟩
              have HSa : Hid (∀ w', Keep Never wr w' → Calls Try.prog 20 #[.agg #[.int .i64 q1, .slice A5 n5 c5, .int .i64 q3, .int .i64 q4], .agg #[.int .i64 x1, .slice A2 n2 d2, .int .i64 x2, .int .i64 x3]] w' fun e w'' => e = .returned (.bool sm) ∧ Keep Never w' w'') := Lib.hid (fun w' h => by
                have := sameRt_any (q1, q2, q3, q4) (x1, p, x2, x3) A5 A2 n5 n2 c5 d2 _ _ w' (stps_rd (HS9.out.keep (HJ.out.1.trans h) (fun _ h => h.elim))).1 (stps_rd (hsl.keep h (fun _ h => h.elim))).1 HN5.out HN2.out
                rw [hsm] at this
                exact this)
              have HSm := Lib.hid hsm
              have Hr := Lib.hid hr
              have HS2 : Hid (∀ W', Keep Never wr W' → Keep Never wr W' ∧ W'.cell? ⟨w8.heap.size, 0, none⟩ = some (.int .i64 q1) ∧ W'.cell? ⟨w8.heap.size, 1, none⟩ = some (.slice A5 n5 c5) ∧ W'.cell? ⟨w8.heap.size, 2, none⟩ = some (.int .i64 q3) ∧ W'.cell? ⟨w8.heap.size, 3, none⟩ = some (.int .i64 q4) ∧ W'.cell? ⟨W.heap.size, 3, none⟩ = some (.slice (some ad2) nr cr) ∧ W'.cell? (ad2.add (j * 4)) = some (.int .i64 x1) ∧ W'.cell? ⟨(ad2.add (j * 4)).block, (ad2.add (j * 4)).off + 1, none⟩ = some (.slice A2 n2 d2) ∧ W'.cell? ⟨(ad2.add (j * 4)).block, (ad2.add (j * 4)).off + 2, none⟩ = some (.int .i64 x2) ∧ W'.cell? ⟨(ad2.add (j * 4)).block, (ad2.add (j * 4)).off + 3, none⟩ = some (.int .i64 x3)) := Lib.hid (fun W' h => ⟨h, keepT h d0, keepT h d1, keepT h d2', keepT h d3, keepT h y3, keepT h c0, keepT h c1, keepT h c2, keepT h c3⟩)
              clear hsm hr hbb hsl d0 d1 d2' d3 c0 c1 c2 c3
              go_wp2_with fail
              go_region_held3 (fun W' => Keep Never wr W' ∧ W'.cell? ⟨w8.heap.size, 0, none⟩ = some (.int .i64 q1) ∧ W'.cell? ⟨w8.heap.size, 1, none⟩ = some (.slice A5 n5 c5) ∧ W'.cell? ⟨w8.heap.size, 2, none⟩ = some (.int .i64 q3) ∧ W'.cell? ⟨w8.heap.size, 3, none⟩ = some (.int .i64 q4) ∧ W'.cell? ⟨W.heap.size, 3, none⟩ = some (.slice (some ad2) nr cr) ∧ W'.cell? (ad2.add (j * 4)) = some (.int .i64 x1) ∧ W'.cell? ⟨(ad2.add (j * 4)).block, (ad2.add (j * 4)).off + 1, none⟩ = some (.slice A2 n2 d2) ∧ W'.cell? ⟨(ad2.add (j * 4)).block, (ad2.add (j * 4)).off + 2, none⟩ = some (.int .i64 x2) ∧ W'.cell? ⟨(ad2.add (j * 4)).block, (ad2.add (j * 4)).off + 3, none⟩ = some (.int .i64 x3))
                (first | assumption | exact HS2.out _ ((Keep.refl Never wr).drew) | exact HS2.out _ (Keep.trans (And.left (by assumption)) hk9') | exact HS2.out _ (Keep.trans ((Keep.refl Never wr).drew) hk9'))
                (first
                  | (go_at_call 20; refine (HSa.out _ (by first | exact And.left (by assumption) | exact (Keep.refl Never wr).drew)).mono ?_; rintro e w10 ⟨rfl, hk9'⟩))
              all_goals
                rename_i hS
                obtain ⟨hkq, _, _, _, _, y3', c0', _⟩ := hS
                have HKf := Lib.hid hkq
                clear HS2 HSa hkq
                (try clear hk9')
                by_cases g : x1 = id
                · have t1 : (x1 == id) = true := by simpa using g
                  have HM := Lib.hid (rt_hit Hr.out g HJ.out.2)
                  obtain ⟨e1, e2⟩ := HOr.out _ HM.out
                  have e3 : sm = true := by rw [← HSm.out]; exact decide_eq_true e1
                  subst e2
                  subst e3
                  clear g e1
                  go_wp2_with fail
                  (try go_quiet (fail))
                  (try go_wp2_with fail)
                  go_ret
                  exact ⟨rfl, HK.out.trans (HKj.out.trans (by first | exact HKf.out | exact HKf.out.drewN _))⟩
                · have t1 : (x1 == id) = false := by simpa using g
                  have HN := Lib.hid (all_take Hr.out HJ.out.2 g)
                  clear g
                  go_wp2_with fail
                  (try go_quiet (fail))
                  (try go_wp2_with fail)
                  refine ⟨⟨j + 1, by omega, by go_num, Lib.hid ⟨HJ.out.1.trans (by first | exact HKf.out | exact HKf.out.drewN _), HN.out⟩⟩, ?_⟩
                  simp [intOf]; try omega
            · obtain rfl : j = nr := by omega
              have hjz : ¬ (j : Int) < (j : Int) := by omega
              have e2 : th = false := HOrn.out (rt_miss (fun x hx => HJ.out.2 x (by rw [List.take_of_length_le (by rw [← HL.out.2]; exact Nat.le_refl _)]; exact hx)))
              subst e2
              have y2 : wr.cell? ⟨W.heap.size, 2, none⟩ = some (.slice (some ad) nb cb) := (HB1.out.keep HKj.out (fun h => h)).cell 2
              have hgt : (0 : Int) < (nb : Int) := by have := HGt.out; omega
              go_wp2_with fail
              (try go_quiet (fail))
              (try go_wp2_with fail)
              go_ret
              exact ⟨rfl, HK.out.trans (by first | exact HKj.out | exact HKj.out.drewN _)⟩

        · have t1 : (s1 == id) = false := by simpa using g
          have HN : Hid (∀ x ∈ t.2.2.1.take (k + 1), x.1 ≠ id) := Lib.hid (all_take Hb.out HH.out.2 g)
          by_cases g2 : (k : Int) = (nb : Int) - 1
          · have t2 : ((k : Int) == (nb : Int) - 1) = true := by simpa using g2
            have hi : is = false := HOn.out (bal_miss (fun x hx => HN.out x (by rw [List.take_of_length_le (by rw [← HL.out.1]; omega)]; exact hx)))
            subst hi
            clear g g2 d0 d1 d2
            go_wp2_with fail
            refine ⟨⟨k + 1, by omega, by go_num, Lib.hid ⟨HH.out.1, HN.out⟩⟩, ?_⟩
            simp [intOf]; try omega
          · have t2 : ((k : Int) == (nb : Int) - 1) = false := by simpa using g2
            clear g d0 d1 d2 g2
            go_wp2_with fail
            refine ⟨⟨k + 1, by omega, by go_num, Lib.hid ⟨HH.out.1, HN.out⟩⟩, ?_⟩
            simp [intOf]; try omega
      · obtain rfl : nb = k := by omega
        have hkz : ¬ (nb : Int) < (nb : Int) := by omega
        have hi : is = false := HOn.out (bal_miss (fun x hx => HH.out.2 x (by rw [List.take_of_length_le (by rw [← HL.out.1]; exact Nat.le_refl _)]; exact hx)))
        subst hi
        have HKr := Lib.hid (HK7.out.trans HH.out.1)
        clear HH HOb HOn y2
        obtain ⟨wz, hwz⟩ : ∃ wz, wr = wz := ⟨_, rfl⟩
        rw [hwz] at HKr
        clear hk
        subst hwz
        have HLi2 := HLi
        have HRc0 := HRo.out (wr) (HK.out.trans HKr.out) HLi.out
        obtain ⟨o, ho⟩ : ∃ b, rtM t.2.2.2 id = b := ⟨_, rfl⟩
        rw [ho] at HRc0
        obtain ⟨q1, hq1⟩ : ∃ z, (o.getD (0, [], 0, 0)).1 = z := ⟨_, rfl⟩
        obtain ⟨q2, hq2⟩ : ∃ z, (o.getD (0, [], 0, 0)).2.1 = z := ⟨_, rfl⟩
        obtain ⟨q3, hq3⟩ : ∃ z, (o.getD (0, [], 0, 0)).2.2.1 = z := ⟨_, rfl⟩
        obtain ⟨q4, hq4⟩ : ∃ z, (o.getD (0, [], 0, 0)).2.2.2 = z := ⟨_, rfl⟩
        obtain ⟨th, hth⟩ : ∃ z, o.isSome = z := ⟨_, rfl⟩
        unfold RtRet at HRc0
        rw [hq1, hq2, hq3, hq4, hth] at HRc0
        have HRc := Lib.hid HRc0
        have HOr : Hid (∀ r, rtM t.2.2.2 id = some r → (q1, q2, q3, q4) = r ∧ th = true) := Lib.hid (fun r h => by
          rw [ho] at h
          subst h
          exact ⟨by rw [← hq1, ← hq2, ← hq3, ← hq4]; rfl, hth.symm⟩)
        have HOrn : Hid (rtM t.2.2.2 id = none → th = false) := Lib.hid (fun h => by rw [ho] at h; subst h; exact hth.symm)
        have HQ2 : Hid (q2.length ≤ 100) := Lib.hid (by
          cases o with
          | none => rw [← hq2]; exact Nat.zero_le _
          | some r => rw [← hq2]; exact HLi.out.p r (List.mem_of_find?_eq_some ho))
        have y0 : (wr).cell? ⟨W.heap.size, 0, none⟩ = some (.slice Ae ne ce) := (HB1.out.keep HKr.out (fun h => h)).cell 0
        have y1 : (wr).cell? ⟨W.heap.size, 1, none⟩ = some (.slice Aj nj cj) := (HB1.out.keep HKr.out (fun h => h)).cell 1
        have y2 : (wr).cell? ⟨W.heap.size, 2, none⟩ = some (.slice Ab nb cb) := (HB1.out.keep HKr.out (fun h => h)).cell 2
        have y3 : (wr).cell? ⟨W.heap.size, 3, none⟩ = some (.slice Ar nr cr) := (HB1.out.keep HKr.out (fun h => h)).cell 3
        clear hq1 hq2 hq3 hq4 hth HRc0 HRo ho
        go_wp2_with fail
        refine HRc.out.mono ?_
        rintro e w8 ⟨A5, n5, c5, rfl, hs5, hk8⟩
        obtain ⟨w9, hw9⟩ : ∃ W : World, w8.alloc (.cells #[.int .i64 q1, .slice A5 n5 c5, .int .i64 q3, .int .i64 q4] 36) = W := ⟨_, rfl⟩
        have k9 : Keep Never w8 w9 := by rw [← hw9]; exact (Keep.refl _ _).alloc _
        have c9 := Blk.new w8 36 #[.int .i64 q1, .slice A5 n5 c5, .int .i64 q3, .int .i64 q4]
        rw [hw9] at c9
        have HK9 := Lib.hid (HKr.out.trans (hk8.trans k9))
        have HB9 := Lib.hid c9
        have HS9 := Lib.hid (hs5.keep k9 (fun _ h => h.elim))
        have HN5 : Hid (n5 ≤ 100000000) := Lib.hid (by have := hs5.len; have := HQ2.out; omega)
        clear hk8 k9 c9 HRc y0 y1 y2 y3 hs5 HQ2
        go_wp2_with fail
        clear hw9
        go_loopw [12] (fun i wr => ∃ k : Nat, k ≤ nr ∧ i = .int .i64 k ∧ Hid (Keep Never w9 wr ∧ ∀ x ∈ t.2.2.2.take k, x.1 ≠ id)) (fun i _ => nr - (intOf i).toNat)
        case atStart => exact ⟨0, by omega, rfl, Lib.hid ⟨Keep.refl _ _, by simp⟩⟩
        case round =>
          obtain ⟨j, hj, rfl, HJ⟩ := hrel
          have HKj := Lib.hid (HK9.out.trans HJ.out.1)
          have y3 : wr.cell? ⟨W.heap.size, 3, none⟩ = some (.slice Ar nr cr) := (HB1.out.keep HKj.out (fun h => h)).cell 3
          by_cases h1 : j < nr
          · have hjz : (j : Int) < (nr : Int) := by omega
            obtain ⟨ad2, r, A2, n2, d2, hA2, _, hr, c0, c1, c2, c3, hsl⟩ := rt_at2 (HTp.out.keep (HK.out.trans HKj.out)).r h1
            simp only at hA2
            subst hA2
            obtain ⟨x1, p, x2, x3⟩ := r
            simp only at c0 c1 c2 c3 hsl
            have hbb := HB9.out.keep HJ.out.1 (fun h => h)
            have d0 : wr.cell? ⟨w8.heap.size, 0, none⟩ = some (.int .i64 q1) := hbb.cell 0
            have d1 : wr.cell? ⟨w8.heap.size, 1, none⟩ = some (.slice A5 n5 c5) := hbb.cell 1
            have d2' : wr.cell? ⟨w8.heap.size, 2, none⟩ = some (.int .i64 q3) := hbb.cell 2
            have d3 : wr.cell? ⟨w8.heap.size, 3, none⟩ = some (.int .i64 q4) := hbb.cell 3
            have HN2 : Hid (n2 ≤ 100000000) := Lib.hid (by have h5 : p.length ≤ 100 := HLi.out.p _ (List.mem_of_getElem? hr); have := hsl.len; omega)
            obtain ⟨sm, hsm⟩ : ∃ z, decide (((q1, q2, q3, q4) : Rt) = (x1, p, x2, x3)) = z := ⟨_, rfl⟩
            have HSa : Hid (∀ w', Keep Never wr w' → Calls Try.prog 20 #[.agg #[.int .i64 q1, .slice A5 n5 c5, .int .i64 q3, .int .i64 q4], .agg #[.int .i64 x1, .slice A2 n2 d2, .int .i64 x2, .int .i64 x3]] w' fun e w'' => e = .returned (.bool sm) ∧ Keep Never w' w'') := Lib.hid (fun w' h => by
              have := sameRt_any (q1, q2, q3, q4) (x1, p, x2, x3) A5 A2 n5 n2 c5 d2 _ _ w' (stps_rd (HS9.out.keep (HJ.out.1.trans h) (fun _ h => h.elim))).1 (stps_rd (hsl.keep h (fun _ h => h.elim))).1 HN5.out HN2.out
              rw [hsm] at this
              exact this)
            have HSm := Lib.hid hsm
            have Hr := Lib.hid hr
            have HS2 : Hid (∀ W', Keep Never wr W' → Keep Never wr W' ∧ W'.cell? ⟨w8.heap.size, 0, none⟩ = some (.int .i64 q1) ∧ W'.cell? ⟨w8.heap.size, 1, none⟩ = some (.slice A5 n5 c5) ∧ W'.cell? ⟨w8.heap.size, 2, none⟩ = some (.int .i64 q3) ∧ W'.cell? ⟨w8.heap.size, 3, none⟩ = some (.int .i64 q4) ∧ W'.cell? ⟨W.heap.size, 3, none⟩ = some (.slice (some ad2) nr cr) ∧ W'.cell? (ad2.add (j * 4)) = some (.int .i64 x1) ∧ W'.cell? ⟨(ad2.add (j * 4)).block, (ad2.add (j * 4)).off + 1, none⟩ = some (.slice A2 n2 d2) ∧ W'.cell? ⟨(ad2.add (j * 4)).block, (ad2.add (j * 4)).off + 2, none⟩ = some (.int .i64 x2) ∧ W'.cell? ⟨(ad2.add (j * 4)).block, (ad2.add (j * 4)).off + 3, none⟩ = some (.int .i64 x3)) := Lib.hid (fun W' h => ⟨h, keepT h d0, keepT h d1, keepT h d2', keepT h d3, keepT h y3, keepT h c0, keepT h c1, keepT h c2, keepT h c3⟩)
            clear hsm hr hbb hsl d0 d1 d2' d3 c0 c1 c2 c3
            go_wp2_with fail
            go_region_held3 (fun W' => Keep Never wr W' ∧ W'.cell? ⟨w8.heap.size, 0, none⟩ = some (.int .i64 q1) ∧ W'.cell? ⟨w8.heap.size, 1, none⟩ = some (.slice A5 n5 c5) ∧ W'.cell? ⟨w8.heap.size, 2, none⟩ = some (.int .i64 q3) ∧ W'.cell? ⟨w8.heap.size, 3, none⟩ = some (.int .i64 q4) ∧ W'.cell? ⟨W.heap.size, 3, none⟩ = some (.slice (some ad2) nr cr) ∧ W'.cell? (ad2.add (j * 4)) = some (.int .i64 x1) ∧ W'.cell? ⟨(ad2.add (j * 4)).block, (ad2.add (j * 4)).off + 1, none⟩ = some (.slice A2 n2 d2) ∧ W'.cell? ⟨(ad2.add (j * 4)).block, (ad2.add (j * 4)).off + 2, none⟩ = some (.int .i64 x2) ∧ W'.cell? ⟨(ad2.add (j * 4)).block, (ad2.add (j * 4)).off + 3, none⟩ = some (.int .i64 x3))
              (first | assumption | exact HS2.out _ ((Keep.refl Never wr).drew) | exact HS2.out _ (Keep.trans (And.left (by assumption)) hk9') | exact HS2.out _ (Keep.trans ((Keep.refl Never wr).drew) hk9'))
              (first
                | (go_at_call 20; refine (HSa.out _ (by first | exact And.left (by assumption) | exact (Keep.refl Never wr).drew)).mono ?_; rintro e w10 ⟨rfl, hk9'⟩))
            all_goals
              rename_i hS
              obtain ⟨hkq, _, _, _, _, y3', c0', _⟩ := hS
              have HKf := Lib.hid hkq
              clear HS2 HSa hkq
              (try clear hk9')
              by_cases g : x1 = id
              · have t1 : (x1 == id) = true := by simpa using g
                have HM := Lib.hid (rt_hit Hr.out g HJ.out.2)
                obtain ⟨e1, e2⟩ := HOr.out _ HM.out
                have e3 : sm = true := by rw [← HSm.out]; exact decide_eq_true e1
                subst e2
                subst e3
                clear g e1
                go_wp2_with fail
                (try go_quiet (fail))
                (try go_wp2_with fail)
                go_ret
                exact ⟨rfl, HK.out.trans (HKj.out.trans (by first | exact HKf.out | exact HKf.out.drewN _))⟩
              · have t1 : (x1 == id) = false := by simpa using g
                have HN := Lib.hid (all_take Hr.out HJ.out.2 g)
                clear g
                go_wp2_with fail
                (try go_quiet (fail))
                (try go_wp2_with fail)
                refine ⟨⟨j + 1, by omega, by go_num, Lib.hid ⟨HJ.out.1.trans (by first | exact HKf.out | exact HKf.out.drewN _), HN.out⟩⟩, ?_⟩
                simp [intOf]; try omega
          · obtain rfl : j = nr := by omega
            have hjz : ¬ (j : Int) < (j : Int) := by omega
            have e2 : th = false := HOrn.out (rt_miss (fun x hx => HJ.out.2 x (by rw [List.take_of_length_le (by rw [← HL.out.2]; exact Nat.le_refl _)]; exact hx)))
            subst e2
            have y2 : wr.cell? ⟨W.heap.size, 2, none⟩ = some (.slice Ab nb cb) := (HB1.out.keep HKj.out (fun h => h)).cell 2
            by_cases hz : (0 : Int) < (nb : Int)
            · go_wp2_with fail
              (try go_quiet (fail))
              (try go_wp2_with fail)
              go_ret
              exact ⟨rfl, HK.out.trans (by first | exact HKj.out | exact HKj.out.drewN _)⟩
            · go_wp2_with fail
              (try go_quiet (fail))
              (try go_wp2_with fail)
              go_ret
              exact ⟨rfl, HK.out.trans (by first | exact HKj.out | exact HKj.out.drewN _)⟩


end Go.Proofs.Ytlcbajdckgcopaa
