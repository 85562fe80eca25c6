/- Chapter 13: the document's end. -/
import Derived.Test.YtijdkjcjhfebfaaGreatRf13A
import Derived.Test.YtijdkjcjhfebfaaGreatTopN
import Derived.Test.YtijdkjcjhfebfaaGreatTopF
namespace Go.Proofs.YtijdkjcjhfebfaaGreat
open Go.RowKit

set_option maxHeartbeats 1000000 in
set_option maxRecDepth 100000 in
theorem rend_any (x : TA) (a : En) (w : World) :
    Calls Tryz.prog 61 #[.agg x.cs, .agg #[.int .i64 a.1, .int .i64 a.2]] w fun e w' => e = .returned (.bool (endB x.ne a)) ∧ Keep Never w w' := by
  have HT := Lib.hid (fun W => redge_any x a.1 W)
  obtain ⟨Ae, ne, ce, Aj, nj, cj, Ab, nb, cb, Ar, nr, cr⟩ := x
  obtain ⟨a1, a2⟩ := a
  simp only [TA.cs] at HT ⊢
  obtain ⟨w1, hw1⟩ : ∃ wb : World, w.alloc (.cells #[.slice Ae ne ce, .slice Aj nj cj, .slice Ab nb cb, .slice Ar nr cr] 27) = wb := ⟨_, rfl⟩
  obtain ⟨w2, hw2⟩ : ∃ wb : World, w1.alloc (.cells #[.int .i64 a1, .int .i64 a2] 75) = wb := ⟨_, rfl⟩
  have z1 : w1.heap.size = w.heap.size + 1 := by rw [← hw1]; simp
  have k1 : Keep Never w w1 := by rw [← hw1]; exact (Keep.refl _ _).alloc _
  have k2 : Keep Never w1 w2 := by rw [← hw2]; exact (Keep.refl _ _).alloc _
  have b1 := Blk.new w 27 #[.slice Ae ne ce, .slice Aj nj cj, .slice Ab nb cb, .slice Ar nr cr]
  rw [hw1] at b1
  have b2 := Blk.new w1 75 #[.int .i64 a1, .int .i64 a2]
  rw [hw2, z1] at b2
  have hb1 := b1.keep k2 (fun h => h)
  have HB2 := Lib.hid b2
  have HK := Lib.hid (k1.trans k2)
  have y0 : w2.cell? ⟨w.heap.size, 0, none⟩ = some (.slice Ae ne ce) := hb1.cell 0
  have y1 : w2.cell? ⟨w.heap.size, 1, none⟩ = some (.slice Aj nj cj) := hb1.cell 1
  have y2 : w2.cell? ⟨w.heap.size, 2, none⟩ = some (.slice Ab nb cb) := hb1.cell 2
  have y3 : w2.cell? ⟨w.heap.size, 3, none⟩ = some (.slice Ar nr cr) := hb1.cell 3
  have v0 : w2.cell? ⟨w.heap.size + 1, 0, none⟩ = some (.int .i64 a1) := HB2.out.cell 0
  have v1 : w2.cell? ⟨w.heap.size + 1, 1, none⟩ = some (.int .i64 a2) := HB2.out.cell 1
  clear k1 k2 b1 b2 hb1
  go_enter Tryz.func61, Tryz.ntmps61
  go_wp2_with fail
  refine (HT.out w2).mono ?_
  rintro e w3 ⟨rfl, hk3⟩
  have HK3 := Lib.hid (HK.out.trans hk3)
  have u1 : w3.cell? ⟨w.heap.size + 1, 1, none⟩ = some (.int .i64 a2) := keepT hk3 v1
  clear y0 y1 y2 y3 v0 v1 hk3
  cases htb : thereB ne a1 with
  | false =>
    have HF : Hid (endB ne (a1, a2) = false) := Lib.hid (by unfold endB; rw [htb]; rfl)
    clear htb
    go_wp2_with fail
    go_ret
    exact ⟨by rw [HF.out]; rfl, HK3.out⟩
  | true =>
    by_cases q0 : a2 = 0
    · have t0 : (a2 == 0) = true := by simpa using q0
      have HF : Hid (endB ne (a1, a2) = true) := Lib.hid (by unfold endB; rw [htb]; simp [q0])
      clear htb q0
      go_wp2_with fail
      go_ret
      exact ⟨by rw [HF.out]; rfl, HK3.out⟩
    · have t0 : (a2 == 0) = false := by simpa using q0
      by_cases q1 : a2 = 1
      · have t1 : (a2 == 1) = true := by simpa using q1
        have HF : Hid (endB ne (a1, a2) = true) := Lib.hid (by unfold endB; rw [htb]; simp [q1])
        clear htb q0 q1
        go_wp2_with fail
        go_ret
        exact ⟨by rw [HF.out]; rfl, HK3.out⟩
      · have t1 : (a2 == 1) = false := by simpa using q1
        have HF : Hid (endB ne (a1, a2) = false) := Lib.hid (by unfold endB; rw [htb]; simp [q0, q1])
        clear htb q0 q1
        go_wp2_with fail
        go_ret
        exact ⟨by rw [HF.out]; rfl, HK3.out⟩


end Go.Proofs.YtijdkjcjhfebfaaGreat
