/- Chapter 13: Light. -/
import Derived.Test.YtijdkjcjhfebfaaGreatTopF
namespace Go.Proofs.YtijdkjcjhfebfaaGreat
open Go.RowKit

theorem rt_at {w : World} {B n c i : Nat} {A : Option Addr} {l : List Rt} (h : repRt.Sl w B A n c l) (hi : i < n) : ∃ ad A2 n2 c2, A = some ad ∧ w.cell? ⟨(ad.add (i * 4)).block, (ad.add (i * 4)).off + 1, none⟩ = some (.slice A2 n2 c2) ∧ n2 ≤ maxLen := by
  obtain ⟨ad, s, cs, e, hb, hs, ⟨c1, d1, rfl, ⟨rfl, _⟩, ⟨c2, d2, rfl, ⟨A2, n2, cc, rfl, hsl⟩, _⟩⟩, hc⟩ := h.at_ hi
  have c1 := hc 1 (by decide)
  have hsz : repRt.size = 4 := rfl
  rw [hsz] at c1
  rw [fld _ _ (by omega)] at c1
  exact ⟨ad, A2, n2, cc, e, c1, by have := hsl.2.1; have := hsl.2.2.1; omega⟩

set_option maxHeartbeats 4000000 in
set_option maxRecDepth 100000 in
theorem light13_any (x : TA) (t : Tp) (B : Nat) (w : World) (ht : TpAt w B x t) :
    Calls Tryz.prog 25 #[.agg x.cs] w fun e w' => ∃ b, e = .returned (.bool b) ∧ Hid (b = true → x.ne ≤ 100 ∧ x.nj ≤ 100) ∧ Keep Never w w' := by
  have HR := Lib.hid ht.r
  obtain ⟨Ae, ne, ce, Aj, nj, cj, Ab, nb, cb, Ar, nr, cr⟩ := x
  simp only [TA.cs] at HR ⊢
  obtain ⟨wb, hwb⟩ : ∃ wb : World, w.alloc (.cells #[.slice Ae ne ce, .slice Aj nj cj, .slice Ab nb cb, .slice Ar nr cr] 27) = wb := ⟨_, rfl⟩
  have k1 : Keep Never w wb := by rw [← hwb]; exact (Keep.refl _ _).alloc _
  have b1' := Blk.new w 27 #[.slice Ae ne ce, .slice Aj nj cj, .slice Ab nb cb, .slice Ar nr cr]
  rw [hwb] at b1'
  have y0 : wb.cell? ⟨w.heap.size, 0, none⟩ = some (.slice Ae ne ce) := b1'.cell 0
  have y1 : wb.cell? ⟨w.heap.size, 1, none⟩ = some (.slice Aj nj cj) := b1'.cell 1
  have y2 : wb.cell? ⟨w.heap.size, 2, none⟩ = some (.slice Ab nb cb) := b1'.cell 2
  have y3 : wb.cell? ⟨w.heap.size, 3, none⟩ = some (.slice Ar nr cr) := b1'.cell 3
  have HB := Lib.hid b1'
  have HK := Lib.hid k1
  have HRb := Lib.hid (HR.out.keep k1 (fun _ h => h.elim))
  clear k1 b1' ht HR
  by_cases g1 : ne ≤ 100
  case neg =>
    have t1 : decide ((ne : Int) > 100) = true := by simp; omega
    clear g1
    go_enter Tryz.func25, Tryz.ntmps25
    go_wp2_with fail
    go_ret
    exact ⟨false, rfl, Lib.hid (fun h => (by cases h)), HK.out⟩
  have t1 : decide ((ne : Int) > 100) = false := by simp; omega
  by_cases g2 : nj ≤ 100
  case neg =>
    have t2 : decide ((nj : Int) > 100) = true := by simp; omega
    clear g1 g2
    go_enter Tryz.func25, Tryz.ntmps25
    go_wp2_with fail
    go_ret
    exact ⟨false, rfl, Lib.hid (fun h => (by cases h)), HK.out⟩
  have t2 : decide ((nj : Int) > 100) = false := by simp; omega
  by_cases g3 : nb ≤ 100
  case neg =>
    have t3 : decide ((nb : Int) > 100) = true := by simp; omega
    clear g1 g2 g3
    go_enter Tryz.func25, Tryz.ntmps25
    go_wp2_with fail
    go_ret
    exact ⟨false, rfl, Lib.hid (fun h => (by cases h)), HK.out⟩
  have t3 : decide ((nb : Int) > 100) = false := by simp; omega
  by_cases g4 : nr ≤ 100
  case neg =>
    have t4 : decide ((nr : Int) > 100) = true := by simp; omega
    clear g1 g2 g3 g4
    go_enter Tryz.func25, Tryz.ntmps25
    go_wp2_with fail
    go_ret
    exact ⟨false, rfl, Lib.hid (fun h => (by cases h)), HK.out⟩
  have t4 : decide ((nr : Int) > 100) = false := by simp; omega
  have HG : Hid (ne ≤ 100 ∧ nj ≤ 100) := Lib.hid ⟨g1, g2⟩
  clear g1 g2 g3
  go_enter Tryz.func25, Tryz.ntmps25
  go_wp2_with fail
  clear y0 y1 y2 y3
  go_loopw [3] (fun i wr => ∃ k : Nat, k ≤ nr ∧ i = .int .i64 k ∧ Hid (Keep Never wb wr)) (fun i _ => nr - (intOf i).toNat)
  case atStart => exact ⟨0, by omega, rfl, Lib.hid (Keep.refl _ _)⟩
  case round =>
    obtain ⟨k, hk, rfl, HH⟩ := hrel
    have hbb := HB.out.keep HH.out (fun h => h)
    have y3 : wr.cell? ⟨w.heap.size, 3, none⟩ = some (.slice Ar nr cr) := hbb.cell 3
    clear hbb
    by_cases h0 : k < nr
    · have hkz : (k : Int) < (nr : Int) := by omega
      obtain ⟨ad, A2, n2, c2, hA, hc, hn2⟩ := rt_at (HRb.out.keep HH.out (fun _ h => h.elim)) h0
      subst hA
      by_cases g5 : n2 ≤ 100
      · have t5 : decide ((n2 : Int) > 100) = false := by simp; omega
        clear g5
        go_wp2_with fail
        refine ⟨⟨k + 1, by omega, by go_num, Lib.hid HH.out⟩, ?_⟩
        simp [intOf]; try omega
      · have t5 : decide ((n2 : Int) > 100) = true := by simp; omega
        clear g5
        go_wp2_with fail
        go_ret
        exact ⟨false, rfl, Lib.hid (fun h => (by cases h)), HK.out.trans HH.out⟩
    · obtain rfl : k = nr := by omega
      have hkz : ¬ (k : Int) < (k : Int) := by omega
      go_wp2_with fail
      go_ret
      exact .inr ⟨rfl, HK.out.trans HH.out⟩

end Go.Proofs.YtijdkjcjhfebfaaGreat
