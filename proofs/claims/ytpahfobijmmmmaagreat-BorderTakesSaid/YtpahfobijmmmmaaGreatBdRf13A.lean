/- Chapter 13: the document's Bal and Route. -/
import Derived.Test.YtpahfobijmmmmaaGreatBdTopP
import Derived.Test.YtpahfobijmmmmaaGreatTopN
import Derived.Test.YtpahfobijmmmmaaGreatBdTopF
namespace Go.Proofs.YtpahfobijmmmmaaGreat
open Go.RowKit

set_option maxRecDepth 100000 in
theorem rrt_results {w : World} {b : Nat} {v0 v1 v2 v3 : Value} (hb : Blk w b 53 #[v0, v1, v2, v3]) (tmps : Array Value) (ht : tmps.getD 4 undef = .pointer (some ⟨b, 0, none⟩)) :
    (results Tryz.f27 tmps).run Tryz.prog w = .ok (.tuple #[.agg #[v0, v1, v2, v3], tmps.getD 5 undef]) w := by
  have q0 : w.cell? ⟨b, 0, none⟩ = some v0 := hb.cell 0
  have q1 : w.cell? ⟨b, 1, none⟩ = some v1 := hb.cell 1
  have q2 : w.cell? ⟨b, 2, none⟩ = some v2 := hb.cell 2
  have q3 : w.cell? ⟨b, 3, none⟩ = some v3 := hb.cell 3
  have ht' : tmps[4]?.getD undef = .pointer (some ⟨b, 0, none⟩) := by rw [← Array.getD_eq_getD_getElem?]; exact ht
  simp [results, ht', go_sem, q0, q1, q2, q3]

set_option maxHeartbeats 4000000 in
set_option maxRecDepth 100000 in
theorem rrt_any (x : TA) (t : Tp) (B : Nat) (id : Int) (w : World) (ht : TpAt w B x t) (hn : x.nr ≤ 100000000) (hB : B ≤ w.heap.size) :
    Calls Tryz.prog 27 #[.agg x.cs, .int .i64 id] w (RtRet (rtM t.2.2.2 id) w) := by
  have HT := Lib.hid ht
  have HBz := Lib.hid hB
  have HL : Hid (x.nr = t.2.2.2.length) := Lib.hid ht.r.len
  obtain ⟨Ae, ne, ce, Aj, nj, cj, Ab, nb, cb, Ar, nr, cr⟩ := x
  simp only [TA.cs] at HL hn ⊢
  clear ht hB
  obtain ⟨w1, hw1⟩ : ∃ W : World, w.alloc (.cells #[.slice Ae ne ce, .slice Aj nj cj, .slice Ab nb cb, .slice Ar nr cr] 27) = W := ⟨_, rfl⟩
  obtain ⟨w2, hw2⟩ : ∃ W : World, w1.alloc (.cells #[.int .i64 0, .slice none 0 0, .int .i64 0, .int .i64 0] 53) = W := ⟨_, rfl⟩
  have z1 : w1.heap.size = w.heap.size + 1 := by rw [← hw1]; simp
  have k1 : Keep Never w w1 := by rw [← hw1]; exact (Keep.refl _ _).alloc _
  have k2 : Keep Never w1 w2 := by rw [← hw2]; exact (Keep.refl _ _).alloc _
  have c1 := Blk.new w 27 #[.slice Ae ne ce, .slice Aj nj cj, .slice Ab nb cb, .slice Ar nr cr]
  rw [hw1] at c1
  have c2 := Blk.new w1 53 #[.int .i64 0, .slice none 0 0, .int .i64 0, .int .i64 0]
  rw [hw2, z1] at c2
  have HB1 := Lib.hid (c1.keep k2 (fun h => h))
  have HB2 := Lib.hid c2
  have HK := Lib.hid (k1.trans k2)
  clear k1 k2 c1 c2
  go_enter Tryz.func27, Tryz.ntmps27
  go_wp2_with fail
  clear hw2 hw1
  go_loopw [6] (fun i wr => ∃ k : Nat, k ≤ nr ∧ i = .int .i64 k ∧ Hid (Keep Never w2 wr ∧ ∀ x ∈ t.2.2.2.take k, x.1 ≠ id)) (fun i _ => nr - (intOf i).toNat)
  case atStart => exact ⟨0, by omega, rfl, Lib.hid ⟨Keep.refl _ _, by simp⟩⟩
  case round =>
    obtain ⟨k, hk, rfl, HH⟩ := hrel
    have yF : wr.cell? ⟨w.heap.size, 3, none⟩ = some (.slice Ar nr cr) := (HB1.out.keep HH.out.1 (fun h => h)).cell 3
    have hb2 := HB2.out.keep HH.out.1 (fun h => h)
    have HB2' := Lib.hid hb2
    have HKr := Lib.hid (HK.out.trans HH.out.1)
    by_cases h0 : k < nr
    · have hkz : (k : Int) < (nr : Int) := by omega
      obtain ⟨ad, b, A2, n2, d2, hA, _, hb, c0, c1, c2, c3, hsl⟩ := rt_at2 (HT.out.keep HKr.out).r h0
      simp only at hA
      subst hA
      obtain ⟨s1, p, s3, s4⟩ := b
      simp only at c0 c1 c2 c3 hsl
      have HSl := Lib.hid hsl
      clear hsl
      have Hb := Lib.hid hb
      by_cases g : s1 = id
      · have t1 : (s1 == id) = true := by simpa using g
        have HM : Hid (rtM t.2.2.2 id = some (s1, p, s3, s4)) := Lib.hid (rt_hit Hb.out g HH.out.2)
        have g0 : wr.cell? ⟨w.heap.size + 1, 0, none⟩ = some (.int .i64 0) := hb2.cell 0
        have h0' := hb2.frozen 0
        have g1 : wr.cell? ⟨w.heap.size + 1, 1, none⟩ = some (.slice none 0 0) := hb2.cell 1
        have h1' := hb2.frozen 1
        have g2 : wr.cell? ⟨w.heap.size + 1, 2, none⟩ = some (.int .i64 0) := hb2.cell 2
        have h2' := hb2.frozen 2
        have g3 : wr.cell? ⟨w.heap.size + 1, 3, none⟩ = some (.int .i64 0) := hb2.cell 3
        have h3' := hb2.frozen 3
        clear g hb hb2
        go_wp2_with fail
        (try simp only [Exit.inBlock, Exit.then])
        refine bodyPost_ret (rrt_results (put4_blk HB2'.out (.int .i64 s1) (.slice A2 n2 d2) (.int .i64 s3) (.int .i64 s4)) _ rfl) rfl ⟨A2, n2, d2, by rw [HM.out]; rfl, by rw [HM.out]; exact (HSl.out.keep (put4_keep (S := fun k => k = w.heap.size + 1) (Keep.refl _ _) (.inl rfl) (.int .i64 s1) (.slice A2 n2 d2) (.int .i64 s3) (.int .i64 s4)) (fun k e => by have := HBz.out; omega)).more (Nat.le_trans HBz.out (put4_keep HKr.out (.inr (show w.heap.size ≤ w.heap.size + 1 by omega)) (.int .i64 s1) (.slice A2 n2 d2) (.int .i64 s3) (.int .i64 s4)).size), put4_keep HKr.out (.inr (show w.heap.size ≤ w.heap.size + 1 by omega)) (.int .i64 s1) (.slice A2 n2 d2) (.int .i64 s3) (.int .i64 s4)⟩
      · have t1 : (s1 == id) = false := by simpa using g
        have HN : Hid (∀ x ∈ t.2.2.2.take (k + 1), x.1 ≠ id) := Lib.hid (all_take Hb.out HH.out.2 g)
        clear g hb hb2 c1 c2 c3
        go_wp2_with fail
        refine ⟨⟨k + 1, by omega, by go_num, Lib.hid ⟨HH.out.1, HN.out⟩⟩, ?_⟩
        simp [intOf]; try omega
    · obtain rfl : nr = k := by omega
      have hkz : ¬ (nr : Int) < (nr : Int) := by omega
      have HM : Hid (rtM t.2.2.2 id = none) := Lib.hid (rt_miss (fun x hx => HH.out.2 x (by rw [List.take_of_length_le (by rw [← HL.out]; exact Nat.le_refl _)]; exact hx)))
      have g0 : wr.cell? ⟨w.heap.size + 1, 0, none⟩ = some (.int .i64 0) := hb2.cell 0
      have h0' := hb2.frozen 0
      have g1 : wr.cell? ⟨w.heap.size + 1, 1, none⟩ = some (.slice none 0 0) := hb2.cell 1
      have h1' := hb2.frozen 1
      have g2 : wr.cell? ⟨w.heap.size + 1, 2, none⟩ = some (.int .i64 0) := hb2.cell 2
      have h2' := hb2.frozen 2
      have g3 : wr.cell? ⟨w.heap.size + 1, 3, none⟩ = some (.int .i64 0) := hb2.cell 3
      have h3' := hb2.frozen 3
      clear hb2
      go_wp2_with fail
      (try simp only [Exit.inBlock, Exit.then])
      refine bodyPost_ret (rrt_results (put4_blk HB2'.out (.int .i64 0) (.slice none 0 0) (.int .i64 0) (.int .i64 0)) _ rfl) rfl ⟨none, 0, 0, by rw [HM.out]; rfl, by rw [HM.out]; exact Rep.Sl.nil _ _ _, put4_keep HKr.out (.inr (show w.heap.size ≤ w.heap.size + 1 by omega)) (.int .i64 0) (.slice none 0 0) (.int .i64 0) (.int .i64 0)⟩

end Go.Proofs.YtpahfobijmmmmaaGreat

namespace Go.Proofs.YtpahfobijmmmmaaGreat
open Go.RowKit

set_option maxHeartbeats 1000000 in
set_option maxRecDepth 100000 in
theorem rend_any (x : TA) (a : En) (w : World) :
    Calls Tryz.prog 61 #[.agg x.cs, .agg #[.int .i64 a.1, .int .i64 a.2]] w fun e w' => e = .returned (.bool (endB x.ne a)) ∧ Keep Never w w' := by
  have HT := Lib.hid (fun W => redge_any x a.1 W)
  obtain ⟨Ae, ne, ce, Aj, nj, cj, Ab, nb, cb, Ar, nr, cr⟩ := x
  obtain ⟨a1, a2⟩ := a
  simp only [TA.cs] at HT ⊢
  obtain ⟨w1, hw1⟩ : ∃ wb : World, w.alloc (.cells #[.slice Ae ne ce, .slice Aj nj cj, .slice Ab nb cb, .slice Ar nr cr] 27) = wb := ⟨_, rfl⟩
  obtain ⟨w2, hw2⟩ : ∃ wb : World, w1.alloc (.cells #[.int .i64 a1, .int .i64 a2] 91) = wb := ⟨_, rfl⟩
  have z1 : w1.heap.size = w.heap.size + 1 := by rw [← hw1]; simp
  have k1 : Keep Never w w1 := by rw [← hw1]; exact (Keep.refl _ _).alloc _
  have k2 : Keep Never w1 w2 := by rw [← hw2]; exact (Keep.refl _ _).alloc _
  have b1 := Blk.new w 27 #[.slice Ae ne ce, .slice Aj nj cj, .slice Ab nb cb, .slice Ar nr cr]
  rw [hw1] at b1
  have b2 := Blk.new w1 91 #[.int .i64 a1, .int .i64 a2]
  rw [hw2, z1] at b2
  have hb1 := b1.keep k2 (fun h => h)
  have HB2 := Lib.hid b2
  have HK := Lib.hid (k1.trans k2)
  have y0 : w2.cell? ⟨w.heap.size, 0, none⟩ = some (.slice Ae ne ce) := hb1.cell 0
  have y1 : w2.cell? ⟨w.heap.size, 1, none⟩ = some (.slice Aj nj cj) := hb1.cell 1
  have y2 : w2.cell? ⟨w.heap.size, 2, none⟩ = some (.slice Ab nb cb) := hb1.cell 2
  have y3 : w2.cell? ⟨w.heap.size, 3, none⟩ = some (.slice Ar nr cr) := hb1.cell 3
  have v0 : w2.cell? ⟨w.heap.size + 1, 0, none⟩ = some (.int .i64 a1) := HB2.out.cell 0
  have v1 : w2.cell? ⟨w.heap.size + 1, 1, none⟩ = some (.int .i64 a2) := HB2.out.cell 1
  clear k1 k2 b1 b2 hb1
  go_enter Tryz.func61, Tryz.ntmps61
  go_wp2_with fail
  refine (HT.out w2).mono ?_
  rintro e w3 ⟨rfl, hk3⟩
  have HK3 := Lib.hid (HK.out.trans hk3)
  have u1 : w3.cell? ⟨w.heap.size + 1, 1, none⟩ = some (.int .i64 a2) := keepT hk3 v1
  clear y0 y1 y2 y3 v0 v1 hk3
  cases htb : thereB ne a1 with
  | false =>
    have HF : Hid (endB ne (a1, a2) = false) := Lib.hid (by unfold endB; rw [htb]; rfl)
    clear htb
    go_wp2_with fail
    go_ret
    exact ⟨by rw [HF.out]; rfl, HK3.out⟩
  | true =>
    by_cases q0 : a2 = 0
    · have t0 : (a2 == 0) = true := by simpa using q0
      have HF : Hid (endB ne (a1, a2) = true) := Lib.hid (by unfold endB; rw [htb]; simp [q0])
      clear htb q0
      go_wp2_with fail
      go_ret
      exact ⟨by rw [HF.out]; rfl, HK3.out⟩
    · have t0 : (a2 == 0) = false := by simpa using q0
      by_cases q1 : a2 = 1
      · have t1 : (a2 == 1) = true := by simpa using q1
        have HF : Hid (endB ne (a1, a2) = true) := Lib.hid (by unfold endB; rw [htb]; simp [q1])
        clear htb q0 q1
        go_wp2_with fail
        go_ret
        exact ⟨by rw [HF.out]; rfl, HK3.out⟩
      · have t1 : (a2 == 1) = false := by simpa using q1
        have HF : Hid (endB ne (a1, a2) = false) := Lib.hid (by unfold endB; rw [htb]; simp [q0, q1])
        clear htb q0 q1
        go_wp2_with fail
        go_ret
        exact ⟨by rw [HF.out]; rfl, HK3.out⟩


end Go.Proofs.YtpahfobijmmmmaaGreat
