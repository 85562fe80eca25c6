/- Chapter 13: Light, with all its bounds; the law's awake. -/
import Derived.Test.YtlcbajdckgcopaaTopP
import Derived.Test.YtlcbajdckgcopaaTopG
namespace Go.Proofs.Ytlcbajdckgcopaa
open Go.RowKit

structure TpLight (x : TA) (t : Tp) : Prop where
  e : x.ne ≤ 100
  j : x.nj ≤ 100
  b : x.nb ≤ 100
  r : x.nr ≤ 100
  p : ∀ r ∈ t.2.2.2, r.2.1.length ≤ 100
theorem TpLight.small {x : TA} {t : Tp} (h : TpLight x t) : TpSmall x t := ⟨by have := h.e; omega, by have := h.j; omega, by have := h.b; omega, by have := h.r; omega, fun r hr => by have := h.p r hr; omega⟩
set_option maxHeartbeats 4000000 in
set_option maxRecDepth 100000 in
theorem light13r_any (x : TA) (t : Tp) (B : Nat) (w : World) (ht : TpAt w B x t) :
    Calls Try.prog 15 #[.agg x.cs] w fun e w' => ∃ b, e = .returned (.bool b) ∧ Hid (b = true → TpLight x t) ∧ Keep Never w w' := by
  have HR := Lib.hid ht.r
  obtain ⟨Ae, ne, ce, Aj, nj, cj, Ab, nb, cb, Ar, nr, cr⟩ := x
  simp only [TA.cs] at HR ⊢
  obtain ⟨wb, hwb⟩ : ∃ wb : World, w.alloc (.cells #[.slice Ae ne ce, .slice Aj nj cj, .slice Ab nb cb, .slice Ar nr cr] 27) = wb := ⟨_, rfl⟩
  have k1 : Keep Never w wb := by rw [← hwb]; exact (Keep.refl _ _).alloc _
  have b1' := Blk.new w 27 #[.slice Ae ne ce, .slice Aj nj cj, .slice Ab nb cb, .slice Ar nr cr]
  rw [hwb] at b1'
  have y0 : wb.cell? ⟨w.heap.size, 0, none⟩ = some (.slice Ae ne ce) := b1'.cell 0
  have y1 : wb.cell? ⟨w.heap.size, 1, none⟩ = some (.slice Aj nj cj) := b1'.cell 1
  have y2 : wb.cell? ⟨w.heap.size, 2, none⟩ = some (.slice Ab nb cb) := b1'.cell 2
  have y3 : wb.cell? ⟨w.heap.size, 3, none⟩ = some (.slice Ar nr cr) := b1'.cell 3
  have HB := Lib.hid b1'
  have HK := Lib.hid k1
  have HRb := Lib.hid (HR.out.keep k1 (fun _ h => h.elim))
  clear k1 b1' ht HR
  by_cases g1 : ne ≤ 100
  case neg =>
    have t1 : decide ((ne : Int) > 100) = true := by simp; omega
    clear g1
    go_enter Try.func15, Try.ntmps15
    go_wp2_with fail
    go_ret
    exact ⟨false, rfl, Lib.hid (fun h => (by cases h)), HK.out⟩
  have t1 : decide ((ne : Int) > 100) = false := by simp; omega
  by_cases g2 : nj ≤ 100
  case neg =>
    have t2 : decide ((nj : Int) > 100) = true := by simp; omega
    clear g1 g2
    go_enter Try.func15, Try.ntmps15
    go_wp2_with fail
    go_ret
    exact ⟨false, rfl, Lib.hid (fun h => (by cases h)), HK.out⟩
  have t2 : decide ((nj : Int) > 100) = false := by simp; omega
  by_cases g3 : nb ≤ 100
  case neg =>
    have t3 : decide ((nb : Int) > 100) = true := by simp; omega
    clear g1 g2 g3
    go_enter Try.func15, Try.ntmps15
    go_wp2_with fail
    go_ret
    exact ⟨false, rfl, Lib.hid (fun h => (by cases h)), HK.out⟩
  have t3 : decide ((nb : Int) > 100) = false := by simp; omega
  by_cases g4 : nr ≤ 100
  case neg =>
    have t4 : decide ((nr : Int) > 100) = true := by simp; omega
    clear g1 g2 g3 g4
    go_enter Try.func15, Try.ntmps15
    go_wp2_with fail
    go_ret
    exact ⟨false, rfl, Lib.hid (fun h => (by cases h)), HK.out⟩
  have t4 : decide ((nr : Int) > 100) = false := by simp; omega
  have HG : Hid (ne ≤ 100 ∧ nj ≤ 100 ∧ nb ≤ 100 ∧ nr ≤ 100) := Lib.hid ⟨g1, g2, g3, g4⟩
  clear g1 g2 g3
  go_enter Try.func15, Try.ntmps15
  go_wp2_with fail
  clear y0 y1 y2 y3
  go_loopw [3] (fun i wr => ∃ k : Nat, k ≤ nr ∧ i = .int .i64 k ∧ Hid (Keep Never wb wr ∧ ∀ r ∈ t.2.2.2.take k, r.2.1.length ≤ 100)) (fun i _ => nr - (intOf i).toNat)
  case atStart => exact ⟨0, by omega, rfl, Lib.hid ⟨Keep.refl _ _, by simp⟩⟩
  case round =>
    obtain ⟨k, hk, rfl, HH⟩ := hrel
    have hbb := HB.out.keep HH.out.1 (fun h => h)
    have y3 : wr.cell? ⟨w.heap.size, 3, none⟩ = some (.slice Ar nr cr) := hbb.cell 3
    clear hbb
    by_cases h0 : k < nr
    · have hkz : (k : Int) < (nr : Int) := by omega
      obtain ⟨ad, r, A2, n2, d2, hA, _, hr, _, hc, _, _, hsl⟩ := rt_at2 (HRb.out.keep HH.out.1 (fun _ h => h.elim)) h0
      subst hA
      have hn2 : n2 = r.2.1.length := hsl.len
      have HTk : Hid (t.2.2.2.take (k + 1) = t.2.2.2.take k ++ [r]) := Lib.hid (by
        obtain ⟨h2, h3⟩ := List.getElem?_eq_some_iff.1 hr
        rw [List.take_succ_eq_append_getElem h2, h3])
      have HRl := Lib.hid hn2
      clear hr hsl hn2
      by_cases g5 : n2 ≤ 100
      · have t5 : decide ((n2 : Int) > 100) = false := by simp; omega
        have HN2 := Lib.hid g5
        clear g5
        go_wp2_with fail
        refine ⟨⟨k + 1, by omega, by go_num, Lib.hid ⟨HH.out.1, fun u hu => ?_⟩⟩, ?_⟩
        · rw [HTk.out] at hu
          rcases List.mem_append.1 hu with hu | hu
          · exact HH.out.2 u hu
          · simp at hu; subst hu; rw [← HRl.out]; exact HN2.out
        simp [intOf]; try omega
      · have t5 : decide ((n2 : Int) > 100) = true := by simp; omega
        clear g5
        go_wp2_with fail
        go_ret
        exact ⟨false, rfl, Lib.hid (fun h => (by cases h)), HK.out.trans HH.out.1⟩
    · obtain rfl : k = nr := by omega
      have hkz : ¬ (k : Int) < (k : Int) := by omega
      go_wp2_with fail
      go_ret
      have HTL := Lib.hid (TpLight.mk (x := ⟨Ae, ne, ce, Aj, nj, cj, Ab, nb, cb, Ar, k, cr⟩) (t := t) HG.out.1 HG.out.2.1 HG.out.2.2.1 HG.out.2.2.2 (fun r hr => HH.out.2 r (by rw [List.take_of_length_le (by rw [HRb.out.len]; exact Nat.le_refl _)]; exact hr)))
      first
        | exact .inr ⟨rfl, Lib.hid HTL.out, HK.out.trans HH.out.1⟩
        | exact ⟨true, rfl, Lib.hid (fun _ => HTL.out), HK.out.trans HH.out.1⟩
        | exact .inr ⟨rfl, HTL, HK.out.trans HH.out.1⟩

set_option maxHeartbeats 4000000 in
set_option maxRecDepth 100000 in
theorem awake13_any (w : World) : Calls Try.prog 14 #[] w fun e w' => e = .returned (.bool true) ∧ Keep Never w w' := by
  have qe : ∀ (w : World) (x1 : Int) (x2 : Bool) (y1 : Int) (y2 : Bool), (binOp .eql 44 (.agg #[.int .i64 x1, .bool x2]) (.agg #[.int .i64 y1, .bool y2])).run Try.prog w = .ok (.bool (sameS x1 x2 y1 y2)) w := run_eq_stp
  have HS := Lib.hid small_any
  go_enter Try.func14, Try.ntmps14
  go_wp2_with fail
  refine (HS.out _).mono ?_
  rintro e w1 ⟨x, rfl, ht1, hk1⟩
  have HA1 := Lib.hid (after_any x smallT _ (0, false) w1 ht1 (by rw [ht1.j.len]; decide) (by rw [ht1.e.len]; decide))
  rw [small_after.1] at HA1
  obtain ⟨Ae, ne, ce, Aj, nj, cj, Ab, nb, cb, Ar, nr, cr⟩ := x
  simp only [TA.cs] at HA1 ⊢
  have HK1 := Lib.hid hk1
  clear ht1 hk1
  go_wp2_with fail
  refine HA1.out.mono ?_
  rintro e w2 ⟨A2, n2, c2, rfl, hn2, ho2, hk2⟩
  have en2 : n2 = 2 := hn2.out
  subst en2
  have HO2 := Lib.hid ho2.rd
  have HK2 := Lib.hid (HK1.out.trans hk2)
  clear ho2 hk2 hn2 HA1
  go_wp2_with fail
  refine (HS.out _).mono ?_
  rintro e w3 ⟨x, rfl, ht3, hk3⟩
  have HA3 := Lib.hid (after_any x smallT _ (1, true) w3 ht3 (by rw [ht3.j.len]; decide) (by rw [ht3.e.len]; decide))
  rw [small_after.2] at HA3
  obtain ⟨Ae, ne, ce, Aj, nj, cj, Ab, nb, cb, Ar, nr, cr⟩ := x
  simp only [TA.cs] at HA3 ⊢
  have HK3 := Lib.hid (HK2.out.trans hk3)
  have HO3 := Lib.hid (HO2.out.keep hk3 (fun _ h => h.elim))
  clear ht3 hk3
  go_wp2_with fail
  refine HA3.out.mono ?_
  rintro e w4 ⟨A4, n4, c4, rfl, hn4, ho4, hk4⟩
  have en4 : n4 = 1 := hn4.out
  subst en4
  have HP4 := Lib.hid ho4.rd
  have HK4 := Lib.hid (HK3.out.trans hk4)
  have HO4 := Lib.hid (HO3.out.keep hk4 (fun _ h => h.elim))
  clear ho4 hk4 hn4 HA3
  go_wp2_with fail
  refine (HS.out _).mono ?_
  rintro e w5 ⟨x, rfl, ht5, hk5⟩
  obtain ⟨W6, hW6⟩ : ∃ W : World, w5.alloc (.cells #[.int .i64 0, .bool false, .int .i64 1, .bool false] 44) = W := ⟨_, rfl⟩
  have k6 : Keep Never w5 W6 := by rw [← hW6]; exact (Keep.refl _ _).alloc _
  have b6 := Blk.new w5 44 #[.int .i64 0, .bool false, .int .i64 1, .bool false]
  rw [hW6] at b6
  have hp6 : repStp.Sl W6 W6.heap.size (some ⟨w5.heap.size, 0, none⟩) 2 2 [(0, false), (1, false)] := stps_sl (Rd.of_blk (size := 2) (n := 2) (cs := [.int .i64 0, .bool false, .int .i64 1, .bool false]) b6 rfl) (by omega) (by unfold maxLen; omega) (by simp) (by intro s hs; simp at hs; rcases hs with rfl | rfl <;> (constructor <;> simp))
  have HL6 := Lib.hid (length_any x smallT _ _ 2 2 [(0, false), (1, false)] W6 ((show TpAt W6 W6.heap.size x smallT from ⟨(ht5.keep k6).e.more k6.size, (ht5.keep k6).j.more k6.size, (ht5.keep k6).b.more k6.size, (ht5.keep k6).r.more k6.size⟩)) hp6 (by rw [ht5.j.len]; decide) (by omega))
  rw [small_len] at HL6
  obtain ⟨Ae, ne, ce, Aj, nj, cj, Ab, nb, cb, Ar, nr, cr⟩ := x
  simp only [TA.cs] at HL6 ⊢
  have HK6 := Lib.hid (HK4.out.trans (hk5.trans k6))
  have HO6 := Lib.hid (HO4.out.keep (hk5.trans k6) (fun _ h => h.elim))
  have HP6 := Lib.hid (HP4.out.keep (hk5.trans k6) (fun _ h => h.elim))
  clear ht5 hk5 k6 b6 hp6
  go_wp2_with fail
  refine HL6.out.mono ?_
  rintro e w7 ⟨rfl, hk7⟩
  have HK7 := Lib.hid (HK6.out.trans hk7)
  have HO7 := Lib.hid (HO6.out.keep hk7 (fun _ h => h.elim))
  have HP7 := Lib.hid (HP6.out.keep hk7 (fun _ h => h.elim))
  clear hk7 HL6
  go_wp2_with fail
  refine (HS.out _).mono ?_
  rintro e w8 ⟨x, rfl, ht8, hk8⟩
  have HC8 := Lib.hid (check_any x smallT _ w8 ht8 ⟨by rw [ht8.e.len]; decide, by rw [ht8.j.len]; decide, by rw [ht8.b.len]; decide, by rw [ht8.r.len]; decide, by intro r hr; simp [smallT] at hr⟩ (Nat.le_refl _))
  rw [small_check] at HC8
  obtain ⟨Ae, ne, ce, Aj, nj, cj, Ab, nb, cb, Ar, nr, cr⟩ := x
  simp only [TA.cs] at HC8 ⊢
  have HK8 := Lib.hid (HK7.out.trans hk8)
  have HO8 := Lib.hid (HO7.out.keep hk8 (fun _ h => h.elim))
  have HP8 := Lib.hid (HP7.out.keep hk8 (fun _ h => h.elim))
  clear ht8 hk8
  go_wp2_with fail
  refine HC8.out.mono ?_
  rintro e w9 ⟨rfl, hk9⟩
  have HK9 := Lib.hid (HK8.out.trans hk9)
  have HO9 := HO8.out.keep hk9 (fun _ h => h.elim)
  have HP9 := HP8.out.keep hk9 (fun _ h => h.elim)
  obtain ⟨ad, s, hA, _, hs, c0, c1⟩ := HO9.stp (k := 0) (by omega)
  obtain ⟨ad', s', hA', _, hs', d0, d1⟩ := HO9.stp (k := 1) (by omega)
  obtain ⟨ae, u, hAe, _, hu, e0, e1⟩ := HP9.stp (k := 0) (by omega)
  subst hA
  injection hA' with hA'
  subst hA'
  subst hAe
  simp at hs hs' hu
  subst hs hs' hu
  simp only [Nat.zero_mul, Nat.one_mul, add_zero] at c0 c1 d0 d1 e0 e1
  have hadd : ad.add 2 = ⟨ad.block, ad.off + 2, none⟩ := by unfold Addr.add; simp
  rw [hadd] at d0 d1
  clear hadd
  have t1 : sameS 1 false 1 false = true := by decide
  have t2 : sameS 2 true 2 true = true := by decide
  have t3 : sameS 0 true 0 true = true := by decide
  clear hk9 HO9 HP9 HC8 HO8 HP8 HS
  go_wp2_with fail
  go_ret
  exact ⟨rfl, HK9.out⟩

end Go.Proofs.Ytlcbajdckgcopaa
